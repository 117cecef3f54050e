/- Several texts in one: WebU, StrPlain. -/
import Derived.Test.YtihbmgkbipeakaaGreatWebG8
import Derived.Test.YtihbmgkbipeakaaGreatWebG4
import Derived.Test.YtihbmgkbipeakaaGreatWebG3
namespace Go.Proofs.YtihbmgkbipeakaaGreat
open Go.RowKit

/-- Does a term count. -/
def T.use (t : T) : Bool := t.ground && t.isN
theorem T.use_valid {t : T} (h : t.use = true) : t.valid = true := ((T.isN_iff t).1 (Bool.and_eq_true_iff.1 h).2).1
theorem TermsRow.push {w w1 w3 : World} {base : Nat} {v : Value} {L : List T} {t : T} {A8 : Option Addr} {c8 : Nat} {xs : List Value} {u0 u1 u2 : Value} {o : Obj} (hct : CT (but base v.ownBlock) w xs L) (hv : ∀ b, v.ownBlock = some b → b < w.heap.size) (hbase : base ≤ w.heap.size)
    (hb : Below w.heap.size w w1) (ht : TermIn (from_ w.heap.size) w1 (.agg #[u0, u1, u2]) t) (hown : w3.ownsRow base 29 3 (.slice A8 (L.length + 1) c8) (L.length + 1) (xs ++ [u0, u1, u2]))
    (hg : (w1.alloc o).grownBy w3 v.ownBlock) (hat : A8.map (·.block) = v.ownBlock ∨ A8.map (·.block) = some (w1.alloc o).heap.size) : TermsRow w3 base (.slice A8 (L.length + 1) c8) (L ++ [t]) := by
  obtain ⟨g8, cap, e, _⟩ := hown.form (by omega)
  injection e with e1 e2 e3
  subst e1; subst e3
  have hb' := hb.trans ((below_alloc1 w1 o).mono hb.size)
  refine TermsRow.snoc (w := w1.alloc o) (H := (w1.alloc o).heap.size) (fun i hi => ?_) hct.1 ?_ hown hg ?_ rfl
  · obtain ⟨a0, a1, a2, b0, b1, b2, b3⟩ := hct.2 i hi
    exact ⟨a0, a1, a2, b0, b1, b2, b3.keep fun b hb2 hl => ⟨hb2, hb'.block b hl⟩⟩
  · refine ht.keep fun b hbb hl => ⟨but_iff.2 ⟨by have := of_decide_eq_true hbb; omega, fun e => by have := hv b e; have := of_decide_eq_true hbb; omega⟩, Below.heap_alloc w1 o b hl⟩
  · rcases hat with h | h
    · exact .inl h.symm
    · right; injection h
/-- A list of terms as a slice holds it. -/
def KnownAt (w : World) (A : Option Addr) (cap : Nat) (L : List T) : Prop := TermAt w (.agg #[.int .i64 0, .string ⟨#[]⟩, .slice A L.length cap]) (.mk 0 ⟨#[]⟩ L)
theorem KnownAt.later {w w' : World} {A : Option Addr} {cap : Nat} {L : List T} (h : KnownAt w A cap L) (hb : Below w.heap.size w w') : KnownAt w' A cap L := TermAt.later h hb
theorem TermAt.inv {w : World} {v : Value} {t : T} (h : TermAt w v t) : ∃ (A : Option Addr) (cap : Nat) (U : Nat → Value × Value × Value), v = .agg #[.int .i64 t.kind, .string t.name, .slice A t.kids.length cap] ∧ t.kids.length ≤ cap ∧ cap ≤ maxLen ∧
    (t.kids.length = 0 ∨ ∃ b off, A = some ⟨b, off, none⟩ ∧ ∀ i, i < t.kids.length → w.cell? ⟨b, off + i * 3, none⟩ = some (U i).1 ∧ w.cell? ⟨b, off + i * 3 + 1, none⟩ = some (U i).2.1 ∧ w.cell? ⟨b, off + i * 3 + 2, none⟩ = some (U i).2.2) ∧
    (∀ i (h : i < t.kids.length), TermAt w (.agg #[(U i).1, (U i).2.1, (U i).2.2]) t.kids[i]) := by
  cases h with
  | mk k s A cap ks U h1 h2 h3 h4 hA hU => exact ⟨A, cap, U, rfl, h3, h4, hA, hU⟩
theorem KnownAt.inv {w : World} {A : Option Addr} {cap : Nat} {L : List T} (h : KnownAt w A cap L) : ∃ U : Nat → Value × Value × Value, L.length ≤ cap ∧ cap ≤ maxLen ∧ (L.length = 0 ∨ ∃ b off, A = some ⟨b, off, none⟩ ∧ ∀ i, i < L.length → w.cell? ⟨b, off + i * 3, none⟩ = some (U i).1 ∧ w.cell? ⟨b, off + i * 3 + 1, none⟩ = some (U i).2.1 ∧ w.cell? ⟨b, off + i * 3 + 2, none⟩ = some (U i).2.2) ∧
    (∀ i (h : i < L.length), TermAt w (.agg #[(U i).1, (U i).2.1, (U i).2.2]) L[i]) := by
  obtain ⟨A', cap', U, e, h1, h2, h3, h4⟩ := TermAt.inv h
  injection e with e; injection e with e; injection e with _ e; injection e with _ e; injection e with e _
  injection e with e1 _ e3
  subst e1; subst e3
  exact ⟨U, h1, h2, h3, h4⟩
theorem KnownAt.get {w : World} {A : Option Addr} {cap : Nat} {L : List T} (h : KnownAt w A cap L) {i : Nat} (hi : i < L.length) : ∃ b off A' cap', A = some ⟨b, off, none⟩ ∧ w.cell? ⟨b, off + i * 3, none⟩ = some (.int .i64 L[i].kind) ∧ w.cell? ⟨b, off + i * 3 + 1, none⟩ = some (.string L[i].name) ∧
    w.cell? ⟨b, off + i * 3 + 2, none⟩ = some (.slice A' L[i].kids.length cap') ∧ TermAt w (.agg #[.int .i64 L[i].kind, .string L[i].name, .slice A' L[i].kids.length cap']) L[i] := by
  obtain ⟨U, _, _, hA, hU⟩ := h.inv
  exact TermAt.cells hi hA hU
end Go.Proofs.YtihbmgkbipeakaaGreat

namespace Go.Proofs.YtihbmgkbipeakaaGreat

/-- A binding. -/
structure Bd where
  var : ByteArray
  t : T

namespace T
/-- The value of a variable. -/
def look : List Bd → ByteArray → Option T
  | [], _ => none
  | x :: r, n => if x.var = n then some x.t else look r n
/-- The place of a name among bindings that ascend. -/
def pos (n : ByteArray) : List Bd → Nat
  | [] => 0
  | x :: r => if less x.var n = true then pos n r + 1 else 0
def ins (L : List Bd) (n : ByteArray) (t : T) : List Bd := L.take (pos n L) ++ ⟨n, t⟩ :: L.drop (pos n L)
/-- The place of a term in a list, or -1. -/
def at_ (v : T) (l : List T) : Int := idx (fun x => decide (cmp x v = 0)) l
/-- What an exponent of a pattern stands for. -/
def val (b : List Bd) (k : T) : Option T := if k.kind = 2 then look b k.name else some k
/-- Exponents: what is left of the term's, the open variable, and how many are open. -/
def powGo (b : List Bd) : List T → List T → ByteArray → Nat → Option (List T × ByteArray × Nat)
  | [], left, f, o => some (left, f, o)
  | k :: ps, left, f, o =>
    match val b k with
    | none => powGo b ps left k.name (o + 1)
    | some v => if at_ v left < 0 then none else powGo b ps (left.eraseIdx (at_ v left).toNat) f o
def powEnd (b : List Bd) : Option (List T × ByteArray × Nat) → Option (List Bd)
  | none => none
  | some (left, f, o) => if o = 0 then (if left.length = 0 then some b else none) else if o = 1 ∧ left.length = 1 then (left[0]?).map (ins b f) else none
def pow (ps ts : List T) (b : List Bd) : Option (List Bd) := powEnd b (powGo b ps ts ⟨#[]⟩ 0)
mutual
/-- The bindings with which a pattern is a term. -/
def mat : T → T → List Bd → Option (List Bd)
  | .mk k s ks, t, b =>
    if k = 2 then (match look b s with
      | some v => if cmp v t = 0 then some b else none
      | none => some (ins b s t))
    else if k ≠ t.kind ∨ s ≠ t.name ∨ ks.length ≠ t.kids.length then none
    else if k = 7 then pow ks t.kids b else matAll ks t.kids b
def matAll : List T → List T → List Bd → Option (List Bd)
  | p :: ps, t :: ts, b => (match mat p t b with
    | none => none
    | some c => matAll ps ts c)
  | [], _, b => some b
  | _ :: _, [], b => some b
end
mutual
/-- A pattern with values in it. -/
def put : T → List Bd → Option T
  | .mk k s ks, b => if k = 2 then look b s else (match putAll ks b with
    | none => none
    | some l => some (.mk k s l))
def putAll : List T → List Bd → Option (List T)
  | [], _ => some []
  | p :: ps, b => match put p b with
    | none => none
    | some u => match putAll ps b with
      | none => none
      | some us => some (u :: us)
end
def Ext (b x : List Bd) : Prop := ∀ n v, look b n = some v → look x n = some v
theorem Ext.refl (b : List Bd) : Ext b b := fun _ _ h => h
theorem Ext.trans {a b c : List Bd} (h : Ext a b) (k : Ext b c) : Ext a c := fun n v e => k n v (h n v e)
theorem ins_nil (n : ByteArray) (t : T) : ins [] n t = [⟨n, t⟩] := rfl
theorem ins_cons (x : Bd) (r : List Bd) (n : ByteArray) (t : T) : ins (x :: r) n t = if less x.var n = true then x :: ins r n t else ⟨n, t⟩ :: x :: r := by
  unfold ins
  by_cases h : less x.var n = true
  · simp only [pos, if_pos h, List.take_succ_cons, List.drop_succ_cons, List.cons_append]
  · simp only [pos, if_neg h, List.take_zero, List.drop_zero, List.nil_append]
theorem look_ins : ∀ (b : List Bd) (n : ByteArray) (t : T) (m : ByteArray), look b n = none → look (ins b n t) m = if n = m then some t else look b m
  | [], n, t, m, _ => by rw [ins_nil]; rfl
  | x :: r, n, t, m, h => by
    have hx : ¬ x.var = n := fun e => by simp [look, e] at h
    have hr : look r n = none := by simpa [look, hx] using h
    rw [ins_cons]
    split
    · simp only [look]
      rw [look_ins r n t m hr]
      by_cases e : x.var = m
      · rw [if_pos e, if_neg (fun h => hx (e.trans h.symm)), if_pos e]
      · rw [if_neg e, if_neg e]
    · simp only [look]
theorem ext_ins {b : List Bd} {n : ByteArray} {t : T} (h : look b n = none) : Ext b (ins b n t) := fun m v hv => by
  rw [look_ins b n t m h]
  by_cases e : n = m
  · subst e; rw [h] at hv; cases hv
  · rw [if_neg e]; exact hv
theorem look_new {b : List Bd} {n : ByteArray} {t : T} (h : look b n = none) : look (ins b n t) n = some t := by
  rw [look_ins b n t n h, if_pos rfl]
theorem at_spec {v : T} : ∀ {l : List T}, 0 ≤ at_ v l → ∃ h : (at_ v l).toNat < l.length, l[(at_ v l).toNat] = v
  | [], h => by simp [at_, idx] at h
  | x :: r, h => by
    unfold at_ at h ⊢
    simp only [idx] at h ⊢
    by_cases e : decide (cmp x v = 0) = true
    · simp only [e, if_true]
      exact ⟨by simp, cmp_eq _ _ (of_decide_eq_true e)⟩
    · simp only [e] at h ⊢
      by_cases h2 : idx (fun x => decide (cmp x v = 0)) r < 0
      · simp [h2] at h
      · obtain ⟨h3, h4⟩ := at_spec (v := v) (l := r) (by unfold at_; omega)
        unfold at_ at h3 h4
        have e2 : (idx (fun x => decide (cmp x v = 0)) r + 1).toNat = (idx (fun x => decide (cmp x v = 0)) r).toNat + 1 := by omega
        simp only [h2, if_false, Bool.false_eq_true]
        refine ⟨by rw [e2]; simpa using h3, ?_⟩
        simp only [e2, List.getElem_cons_succ]
        exact h4
theorem at_mem {v : T} {l : List T} (h : v ∈ l) : 0 ≤ at_ v l := by
  unfold at_
  rw [idx_iff, List.any_eq_true]
  exact ⟨v, h, decide_eq_true (cmp_self v)⟩
theorem erase_perm : ∀ (l : List T) (i : Nat) (h : i < l.length), (l[i] :: l.eraseIdx i).Perm l
  | x :: r, 0, _ => by simp
  | x :: r, i + 1, h => by
    have ih := erase_perm r i (by simpa using h)
    simp only [List.getElem_cons_succ, List.eraseIdx_cons_succ]
    exact (List.Perm.swap _ _ _).trans ((List.perm_cons x).2 ih)
theorem at_perm {v : T} {l : List T} (h : 0 ≤ at_ v l) : (v :: l.eraseIdx (at_ v l).toNat).Perm l := by
  obtain ⟨h1, h2⟩ := at_spec h
  have := erase_perm l _ h1
  rw [h2] at this; exact this
theorem powGo_some : ∀ (b : List Bd) (ps left : List T) (f : ByteArray) (o : Nat) (left' : List T) (f' : ByteArray) (o' : Nat), (∀ p ∈ ps, p.atom = true ∧ p.shape = true) → powGo b ps left f o = some (left', f', o') →
    o ≤ o' ∧ ∃ vals, (vals ++ left').Perm left ∧ (o' = o → f' = f ∧ ∀ x, Ext b x → putAll ps x = some vals) ∧
      (o' = o + 1 → look b f' = none ∧ ∀ x y, Ext b x → look x f' = some y → ∃ us, putAll ps x = some us ∧ us.Perm (y :: vals))
  | b, [], left, f, o, left', f', o', _, h => by
    simp only [powGo, Option.some.injEq, Prod.mk.injEq] at h
    obtain ⟨rfl, rfl, rfl⟩ := h
    exact ⟨Nat.le_refl _, [], List.Perm.refl _, fun _ => ⟨rfl, fun _ _ => rfl⟩, fun e => by omega⟩
  | b, .mk k s ks :: ps, left, f, o, left', f', o', hat, h => by
    obtain ⟨hp1, hp2⟩ := hat _ List.mem_cons_self
    have ih := fun left f o => powGo_some b ps left f o left' f' o' (fun p hp => hat p (List.mem_cons_of_mem _ hp))
    have hks : ks = [] := by
      simp only [atom, Bool.or_eq_true, beq_iff_eq] at hp1
      simp only [shape, if_pos hp1, Bool.and_eq_true, beq_iff_eq] at hp2
      exact List.length_eq_zero_iff.1 hp2.2
    subst hks
    have hval : val b (.mk k s []) = if k = 2 then look b s else some (.mk k s []) := rfl
    simp only [powGo] at h
    rw [hval] at h
    have hput : ∀ x, put (.mk k s []) x = if k = 2 then look x s else some (.mk k s []) := fun x => by simp only [put, putAll]
    by_cases hk : k = 2
    · rw [if_pos hk] at h
      cases hl : look b s with
      | none =>
        rw [hl] at h
        obtain ⟨h1, vals, h2, h3, h4⟩ := ih _ _ _ h
        refine ⟨by omega, vals, h2, fun e => by omega, fun e => ?_⟩
        obtain ⟨e1, e2⟩ := h3 e
        subst e1
        refine ⟨hl, fun x y hx hy => ⟨y :: vals, ?_, List.Perm.refl _⟩⟩
        simp only [putAll, hput, if_pos hk, hy, e2 x hx]
      | some v =>
        rw [hl] at h
        by_cases hi : at_ v left < 0
        · simp only [if_pos hi] at h; cases h
        · simp only [if_neg hi] at h
          obtain ⟨h1, vals, h2, h3, h4⟩ := ih _ _ _ h
          refine ⟨h1, v :: vals, ((List.perm_cons v).2 h2).trans (at_perm (by omega)), fun e => ⟨(h3 e).1, fun x hx => ?_⟩, fun e => ⟨(h4 e).1, fun x y hx hy => ?_⟩⟩
          · simp only [putAll, hput, if_pos hk, hx _ _ hl, (h3 e).2 x hx]
          · obtain ⟨us, h5, h6⟩ := (h4 e).2 x y hx hy
            exact ⟨v :: us, by simp only [putAll, hput, if_pos hk, hx _ _ hl, h5], ((List.perm_cons v).2 h6).trans (List.Perm.swap _ _ _)⟩
    · rw [if_neg hk] at h
      dsimp only at h
      by_cases hi : at_ (.mk k s []) left < 0
      · simp only [if_pos hi] at h; cases h
      · simp only [if_neg hi] at h
        obtain ⟨h1, vals, h2, h3, h4⟩ := ih _ _ _ h
        refine ⟨h1, .mk k s [] :: vals, ((List.perm_cons _).2 h2).trans (at_perm (by omega)), fun e => ⟨(h3 e).1, fun x hx => ?_⟩, fun e => ⟨(h4 e).1, fun x y hx hy => ?_⟩⟩
        · simp only [putAll, hput, if_neg hk, (h3 e).2 x hx]
        · obtain ⟨us, h5, h6⟩ := (h4 e).2 x y hx hy
          exact ⟨.mk k s [] :: us, by simp only [putAll, hput, if_neg hk, h5], ((List.perm_cons _).2 h6).trans (List.Perm.swap _ _ _)⟩
/-- What a match of exponents leaves. -/
theorem pow_fill {ps ts : List T} {b x : List Bd} (hat : ∀ p ∈ ps, p.atom = true ∧ p.shape = true) (h : pow ps ts b = some x) : Ext b x ∧ ∃ us, putAll ps x = some us ∧ us.Perm ts := by
  unfold pow at h
  cases hg : powGo b ps ts ⟨#[]⟩ 0 with
  | none => rw [hg] at h; cases h
  | some q =>
    obtain ⟨left, f, o⟩ := q
    rw [hg] at h
    simp only [powEnd] at h
    obtain ⟨_, vals, h2, h3, h4⟩ := powGo_some b ps ts _ 0 left f o hat hg
    by_cases ho : o = 0
    · rw [if_pos ho] at h
      by_cases hl : left.length = 0
      · rw [if_pos hl] at h
        obtain rfl : b = x := by injection h
        rw [List.length_eq_zero_iff.1 hl, List.append_nil] at h2
        exact ⟨Ext.refl _, vals, (h3 ho).2 _ (Ext.refl _), h2⟩
      · rw [if_neg hl] at h; cases h
    · rw [if_neg ho] at h
      by_cases h1 : o = 1 ∧ left.length = 1
      · rw [if_pos h1] at h
        obtain ⟨h5, h6⟩ := h4 h1.1
        match left, h1.2 with
        | [y], _ =>
          obtain rfl : ins b f y = x := by simpa using h
          obtain ⟨us, h7, h8⟩ := h6 _ y (ext_ins h5) (look_new h5)
          exact ⟨ext_ins h5, us, h7, h8.trans ((List.perm_append_comm (l₁ := [y]) (l₂ := vals)).trans h2)⟩
      · rw [if_neg h1] at h; cases h
theorem powers_atoms {s : ByteArray} {ks : List T} (h : (T.mk 7 s ks).shape = true) : ∀ p ∈ ks, p.atom = true ∧ p.shape = true := fun p hp => by
  simp only [shape] at h
  rw [if_neg (by omega), Bool.and_eq_true, Bool.and_eq_true] at h
  refine ⟨?_, (shapeAll_iff ks).1 h.2 p hp⟩
  have h1 := h.1.1
  unfold headOk at h1
  rw [if_neg (by omega), if_neg (by omega), if_neg (by omega), if_pos rfl, Bool.and_eq_true] at h1
  have h2 := h1.2
  rw [Bool.not_eq_true', List.any_eq_false] at h2
  have := h2 p hp
  simpa using this
mutual
theorem mat_ext : ∀ (p t : T) (b x : List Bd), p.shape = true → mat p t b = some x → Ext b x
  | .mk k s ks, t, b, x, hs, h => by
    simp only [mat] at h
    by_cases hk : k = 2
    · rw [if_pos hk] at h
      cases hl : look b s with
      | none => rw [hl] at h; obtain rfl : ins b s t = x := by simpa using h
                exact ext_ins hl
      | some v =>
        rw [hl] at h
        by_cases hc : cmp v t = 0
        · obtain rfl : b = x := by simpa [hc] using h
          exact Ext.refl _
        · simp [hc] at h
    · rw [if_neg hk] at h
      by_cases hd : k ≠ t.kind ∨ s ≠ t.name ∨ ks.length ≠ t.kids.length
      · rw [if_pos hd] at h; cases h
      · rw [if_neg hd] at h
        by_cases h7 : k = 7
        · rw [if_pos h7] at h
          subst h7
          exact (pow_fill (powers_atoms hs) h).1
        · rw [if_neg h7] at h
          refine matAll_ext ks t.kids b x ?_ h
          simp only [shape] at hs
          by_cases h1 : k = 1 ∨ k = 2
          · rw [if_pos h1, Bool.and_eq_true, beq_iff_eq, List.length_eq_zero_iff] at hs
            rw [hs.2]; rfl
          · rw [if_neg h1, Bool.and_eq_true] at hs
            exact hs.2
theorem matAll_ext : ∀ (ps ts : List T) (b x : List Bd), shapeAll ps = true → matAll ps ts b = some x → Ext b x
  | [], _, b, x, _, h => by
    obtain rfl : b = x := by simpa [matAll] using h
    exact Ext.refl _
  | _ :: _, [], b, x, _, h => by
    obtain rfl : b = x := by simpa [matAll] using h
    exact Ext.refl _
  | p :: ps, t :: ts, b, x, hs, h => by
    simp only [shapeAll, Bool.and_eq_true] at hs
    simp only [matAll] at h
    cases hm : mat p t b with
    | none => rw [hm] at h; cases h
    | some c => rw [hm] at h; exact (mat_ext p t b c hs.1 hm).trans (matAll_ext ps ts c x hs.2 h)
end
mutual
theorem put_ext : ∀ (p : T) (b x : List Bd) (u : T), Ext b x → put p b = some u → put p x = some u
  | .mk k s ks, b, x, u, he, h => by
    simp only [put] at h ⊢
    by_cases hk : k = 2
    · rw [if_pos hk] at h ⊢; exact he _ _ h
    · rw [if_neg hk] at h ⊢
      cases ha : putAll ks b with
      | none => rw [ha] at h; cases h
      | some l => rw [ha] at h; rw [putAll_ext ks b x l he ha]; exact h
theorem putAll_ext : ∀ (ps : List T) (b x : List Bd) (us : List T), Ext b x → putAll ps b = some us → putAll ps x = some us
  | [], b, x, us, _, h => h
  | p :: ps, b, x, us, he, h => by
    simp only [putAll] at h ⊢
    cases h1 : put p b with
    | none => rw [h1] at h; cases h
    | some u =>
      rw [h1] at h
      cases h2 : putAll ps b with
      | none => rw [h2] at h; cases h
      | some l => rw [h2] at h; rw [put_ext p b x u he h1, putAll_ext ps b x l he h2]; exact h
end
theorem normAll_id {l : List T} (h : ∀ x ∈ l, x.norm = x) : normAll l = l := by
  rw [normAll_map]
  exact (List.map_congr_left h).trans (List.map_id l)
theorem norm_kids : ∀ (t : T), t.norm = t → (∀ x ∈ t.kids, x.norm = x) ∧ (t.kind = 7 → isort t.kids = t.kids) ∧ (t.kind ≠ 7 → normAll t.kids = t.kids)
  | .mk k s ks, h => by
    simp only [norm, mk.injEq, true_and] at h
    have hm : ∀ x ∈ ks, x.norm = x := fun x hx => by
      rw [← h] at hx
      have hx' : x ∈ normAll ks := by
        split at hx
        · exact (isort_perm _).mem_iff.1 hx
        · exact hx
      rw [normAll_map] at hx'
      obtain ⟨y, _, rfl⟩ := List.mem_map.1 hx'
      exact norm_norm y
    have e := normAll_id hm
    refine ⟨hm, fun h7 => ?_, fun _ => e⟩
    have h7' : k = 7 := h7
    rw [if_pos h7', e] at h
    exact h
mutual
/-- A pattern that a term matches is the term, with the bindings in it. -/
theorem mat_fill : ∀ (p t : T) (b x : List Bd), p.shape = true → t.norm = t → mat p t b = some x → ∃ u, put p x = some u ∧ u.norm = t
  | .mk k s ks, t, b, x, hs, hn, h => by
    simp only [mat] at h
    by_cases hk : k = 2
    · rw [if_pos hk] at h
      simp only [put, if_pos hk]
      cases hl : look b s with
      | none =>
        rw [hl] at h
        obtain rfl : ins b s t = x := by simpa using h
        exact ⟨t, look_new hl, hn⟩
      | some v =>
        rw [hl] at h
        by_cases hc : cmp v t = 0
        · obtain rfl : b = x := by simpa [hc] using h
          exact ⟨v, hl, by rw [cmp_eq _ _ hc]; exact hn⟩
        · simp [hc] at h
    · rw [if_neg hk] at h
      simp only [put, if_neg hk]
      by_cases hd : k ≠ t.kind ∨ s ≠ t.name ∨ ks.length ≠ t.kids.length
      · rw [if_pos hd] at h; cases h
      · rw [if_neg hd] at h
        have hd1 : k = t.kind ∧ s = t.name ∧ ks.length = t.kids.length := by
          refine ⟨Decidable.byContradiction fun e => hd (.inl e), Decidable.byContradiction fun e => hd (.inr (.inl e)), Decidable.byContradiction fun e => hd (.inr (.inr e))⟩
        obtain ⟨e1, e2, e3⟩ := hd1
        obtain ⟨n1, n2, n3⟩ := norm_kids t hn
        cases t with
        | mk k' s' ts =>
        simp only [kind, name, kids] at e1 e2 e3 n1 n2 n3 h
        subst e1; subst e2
        by_cases h7 : k = 7
        · rw [if_pos h7] at h
          subst h7
          obtain ⟨_, us, h2, h3⟩ := pow_fill (powers_atoms hs) h
          refine ⟨.mk 7 s us, by rw [h2], ?_⟩
          simp only [norm, mk.injEq, true_and, if_true]
          rw [normAll_id (fun y hy => n1 y (h3.mem_iff.1 hy)), isort_of_perm h3]
          exact n2 rfl
        · rw [if_neg h7] at h
          obtain ⟨us, h2, h3⟩ := matAll_fill ks ts b x (by
            simp only [shape] at hs
            by_cases h1 : k = 1 ∨ k = 2
            · rw [if_pos h1, Bool.and_eq_true, beq_iff_eq, List.length_eq_zero_iff] at hs
              rw [hs.2]; rfl
            · rw [if_neg h1, Bool.and_eq_true] at hs
              exact hs.2) n1 e3 h
          refine ⟨.mk k s us, by rw [h2], ?_⟩
          simp only [norm, if_neg h7, h3]
theorem matAll_fill : ∀ (ps ts : List T) (b x : List Bd), shapeAll ps = true → (∀ t ∈ ts, t.norm = t) → ps.length = ts.length → matAll ps ts b = some x → ∃ us, putAll ps x = some us ∧ normAll us = ts
  | [], ts, b, x, _, _, hl, _ => ⟨[], rfl, by simp at hl; rw [List.length_eq_zero_iff.1 hl.symm]; rfl⟩
  | _ :: _, [], b, x, _, _, hl, _ => by simp at hl
  | p :: ps, t :: ts, b, x, hs, hn, hl, h => by
    simp only [shapeAll, Bool.and_eq_true] at hs
    simp only [matAll] at h
    cases hm : mat p t b with
    | none => rw [hm] at h; cases h
    | some c =>
      rw [hm] at h
      obtain ⟨u, h1, h2⟩ := mat_fill p t b c hs.1 (hn t List.mem_cons_self) hm
      obtain ⟨us, h3, h4⟩ := matAll_fill ps ts c x hs.2 (fun y hy => hn y (List.mem_cons_of_mem _ hy)) (by simpa using hl) h
      refine ⟨u :: us, ?_, by simp only [normAll, h2, h4]⟩
      simp only [putAll, put_ext p c x u (matAll_ext ps ts c x hs.2 h) h1, h3]
end
theorem put_atom {p : T} (h1 : p.atom = true) (h2 : p.shape = true) (b : List Bd) : put p b = val b p := by
  cases p with
  | mk k s ks =>
    have hks : ks = [] := by
      simp only [atom, Bool.or_eq_true, beq_iff_eq] at h1
      simp only [shape, if_pos h1, Bool.and_eq_true, beq_iff_eq] at h2
      exact List.length_eq_zero_iff.1 h2.2
    subst hks
    have hval : val b (.mk k s []) = if k = 2 then look b s else some (.mk k s []) := rfl
    rw [hval]
    simp only [put, putAll]
theorem powGo_full {b : List Bd} : ∀ (ps left us : List T) (f : ByteArray), (∀ p ∈ ps, p.atom = true ∧ p.shape = true) → putAll ps b = some us → left.Perm us → powGo b ps left f 0 = some ([], f, 0)
  | [], left, us, f, _, h, hp => by
    obtain rfl : [] = us := by simpa [putAll] using h
    rw [List.perm_nil.1 hp]; rfl
  | p :: ps, left, us, f, hat, h, hp => by
    obtain ⟨h1, h2⟩ := hat _ List.mem_cons_self
    simp only [putAll, put_atom h1 h2] at h
    simp only [powGo]
    cases hv : val b p with
    | none => rw [hv] at h; cases h
    | some v =>
      rw [hv] at h
      cases ha : putAll ps b with
      | none => rw [ha] at h; cases h
      | some us' =>
        rw [ha] at h
        obtain rfl : v :: us' = us := by simpa using h
        have hm := at_mem (hp.mem_iff.2 (List.mem_cons_self (a := v) (l := us')))
        dsimp only
        rw [if_neg (by omega)]
        exact powGo_full ps _ us' f (fun q hq => hat q (List.mem_cons_of_mem _ hq)) ha ((List.perm_cons v).1 ((at_perm hm).trans hp))
mutual
theorem fill_mat : ∀ (p : T) (b : List Bd) (u : T), (∀ n v, look b n = some v → v.norm = v) → p.shape = true → put p b = some u → mat p u.norm b = some b
  | .mk k s ks, b, u, hb, hs, h => by
    simp only [put] at h
    simp only [mat]
    by_cases hk : k = 2
    · rw [if_pos hk] at h ⊢
      rw [h]
      dsimp only
      rw [hb _ _ h, cmp_self, if_pos rfl]
    · rw [if_neg hk] at h ⊢
      cases ha : putAll ks b with
      | none => rw [ha] at h; cases h
      | some us =>
        rw [ha] at h
        obtain rfl : T.mk k s us = u := by simpa using h
        have hlen := putAll_len ks b us ha
        simp only [norm, kind, name, kids]
        by_cases h7 : k = 7
        · subst h7
          simp only [if_true, length_isort]
          have hat := powers_atoms hs
          have hn : normAll us = us := normAll_id (putAll_norm ks b us hb hat ha)
          rw [hn, if_neg (by simp [hlen])]
          unfold pow
          rw [powGo_full ks (isort us) us _ hat ha (isort_perm us)]
          rfl
        · simp only [if_neg h7]
          rw [if_neg (by simp [normAll_map, hlen])]
          refine fillAll_mat ks b us hb ?_ ha
          simp only [shape] at hs
          by_cases h1 : k = 1 ∨ k = 2
          · rw [if_pos h1, Bool.and_eq_true, beq_iff_eq, List.length_eq_zero_iff] at hs
            rw [hs.2]; rfl
          · rw [if_neg h1, Bool.and_eq_true] at hs
            exact hs.2
theorem fillAll_mat : ∀ (ps : List T) (b : List Bd) (us : List T), (∀ n v, look b n = some v → v.norm = v) → shapeAll ps = true → putAll ps b = some us → matAll ps (normAll us) b = some b
  | [], b, us, _, _, h => by simp only [matAll]
  | p :: ps, b, us, hb, hs, h => by
    simp only [shapeAll, Bool.and_eq_true] at hs
    simp only [putAll] at h
    cases h1 : put p b with
    | none => rw [h1] at h; cases h
    | some u =>
      rw [h1] at h
      cases h2 : putAll ps b with
      | none => rw [h2] at h; cases h
      | some l =>
        rw [h2] at h
        obtain rfl : u :: l = us := by simpa using h
        simp only [normAll, matAll, fill_mat p b u hb hs.1 h1]
        exact fillAll_mat ps b l hb hs.2 h2
theorem putAll_len : ∀ (ps : List T) (b : List Bd) (us : List T), putAll ps b = some us → us.length = ps.length
  | [], b, us, h => by
    obtain rfl : [] = us := by simpa [putAll] using h
    rfl
  | p :: ps, b, us, h => by
    simp only [putAll] at h
    cases h1 : put p b with
    | none => rw [h1] at h; cases h
    | some u =>
      rw [h1] at h
      cases h2 : putAll ps b with
      | none => rw [h2] at h; cases h
      | some l =>
        rw [h2] at h
        obtain rfl : u :: l = us := by simpa using h
        simp [putAll_len ps b l h2]
theorem putAll_norm : ∀ (ps : List T) (b : List Bd) (us : List T), (∀ n v, look b n = some v → v.norm = v) → (∀ p ∈ ps, p.atom = true ∧ p.shape = true) → putAll ps b = some us → ∀ x ∈ us, x.norm = x
  | [], b, us, _, _, h => by
    obtain rfl : [] = us := by simpa [putAll] using h
    exact fun x hx => (List.not_mem_nil hx).elim
  | p :: ps, b, us, hb, hat, h => by
    obtain ⟨a1, a2⟩ := hat _ List.mem_cons_self
    simp only [putAll] at h
    cases h1 : put p b with
    | none => rw [h1] at h; cases h
    | some u =>
      rw [h1] at h
      cases h2 : putAll ps b with
      | none => rw [h2] at h; cases h
      | some l =>
        rw [h2] at h
        obtain rfl : u :: l = us := by simpa using h
        intro x hx
        rcases List.mem_cons.1 hx with rfl | hx
        · rw [put_atom a1 a2] at h1
          unfold val at h1
          by_cases hk : p.kind = 2
          · rw [if_pos hk] at h1; exact hb _ _ h1
          · rw [if_neg hk] at h1
            obtain rfl : p = x := by simpa using h1
            cases p with
            | mk k s ks =>
              simp only [atom, Bool.or_eq_true, beq_iff_eq] at a1
              simp only [shape, if_pos a1, Bool.and_eq_true, beq_iff_eq] at a2
              obtain rfl := List.length_eq_zero_iff.1 a2.2
              simp only [norm, normAll]
              rw [if_neg (by omega)]
        · exact putAll_norm ps b l hb (fun q hq => hat q (List.mem_cons_of_mem _ hq)) h2 x hx
end
mutual
/-- Without variables in the values, none is left. -/
theorem put_closed : ∀ (p : T) (b : List Bd) (u : T), (∀ n v, look b n = some v → v.hasVar = false) → put p b = some u → u.hasVar = false
  | .mk k s ks, b, u, hb, h => by
    simp only [put] at h
    by_cases hk : k = 2
    · rw [if_pos hk] at h; exact hb _ _ h
    · rw [if_neg hk] at h
      cases ha : putAll ks b with
      | none => rw [ha] at h; cases h
      | some us =>
        rw [ha] at h
        obtain rfl : T.mk k s us = u := by simpa using h
        simp only [hasVar, putAll_closed ks b us hb ha, Bool.or_false]
        exact beq_eq_false_iff_ne.2 hk
theorem putAll_closed : ∀ (ps : List T) (b : List Bd) (us : List T), (∀ n v, look b n = some v → v.hasVar = false) → putAll ps b = some us → hasVarAll us = false
  | [], b, us, _, h => by
    obtain rfl : [] = us := by simpa [putAll] using h
    rfl
  | p :: ps, b, us, hb, h => by
    simp only [putAll] at h
    cases h1 : put p b with
    | none => rw [h1] at h; cases h
    | some u =>
      rw [h1] at h
      cases h2 : putAll ps b with
      | none => rw [h2] at h; cases h
      | some l =>
        rw [h2] at h
        obtain rfl : u :: l = us := by simpa using h
        simp only [hasVarAll, put_closed p b u hb h1, putAll_closed ps b l hb h2, Bool.or_false]
end
mutual
theorem shape_of_norm : ∀ t : T, t.norm.shape = true → t.shape = true
  | .mk k s ks => fun h => by
    simp only [norm, shape] at h
    simp only [shape]
    by_cases h12 : k = 1 ∨ k = 2
    · rw [if_pos h12] at h ⊢
      have h7 : ¬ k = 7 := by omega
      rw [if_neg h7, normAll_map, List.length_map] at h
      exact h
    · rw [if_neg h12] at h ⊢
      simp only [Bool.and_eq_true] at h ⊢
      by_cases h7 : k = 7
      · subst h7
        rw [if_pos rfl] at h
        obtain ⟨⟨hh, he⟩, hk⟩ := h
        rw [headOk_perm (isort_perm _), normAll_map, headOk_map norm atom_norm] at hh
        refine ⟨⟨hh, he⟩, shape_of_normAll ks ?_⟩
        rw [shapeAll_iff] at hk ⊢
        exact fun t ht => hk t ((isort_perm _).mem_iff.2 ht)
      · rw [if_neg h7] at h
        obtain ⟨⟨hh, he⟩, hk⟩ := h
        rw [normAll_map, headOk_map norm atom_norm] at hh
        exact ⟨⟨hh, he⟩, shape_of_normAll ks hk⟩
theorem shape_of_normAll : ∀ l : List T, shapeAll (normAll l) = true → shapeAll l = true
  | [] => fun _ => rfl
  | t :: r => fun h => by
    simp only [shapeAll, normAll, Bool.and_eq_true] at h ⊢
    exact ⟨shape_of_norm t h.1, shape_of_normAll r h.2⟩
end
theorem valid_of_norm (t : T) (h : t.norm.valid = true) : t.valid = true := by
  unfold valid at *
  rw [Bool.and_eq_true] at *
  exact ⟨by rw [← size_norm]; exact h.1, shape_of_norm t h.2⟩
/-- Are bindings in order, and can their values be values? -/
def properAt (b : List Bd) (i : Nat) (x : Bd) : Bool := isName x.var && x.t.use && (decide (i = 0) || ((b[i - 1]?).map fun y => less y.var x.var).getD true)
def properB (b : List Bd) : Bool := (List.range b.length).all fun i => ((b[i]?).map (properAt b i)).getD true
theorem properB_at {b : List Bd} (h : properB b = true) {i : Nat} (hi : i < b.length) : properAt b i b[i] = true := by
  unfold properB at h
  rw [List.all_eq_true] at h
  have := h i (List.mem_range.2 hi)
  rw [List.getElem?_eq_getElem hi] at this
  simpa using this
theorem properB_use {b : List Bd} (h : properB b = true) : ∀ x ∈ b, isName x.var = true ∧ x.t.use = true := fun x hx => by
  obtain ⟨i, hi, rfl⟩ := List.getElem_of_mem hx
  have := properB_at h hi
  unfold properAt at this
  simp only [Bool.and_eq_true] at this
  exact this.1
theorem less_iff (a b : ByteArray) : less a b = true ↔ a.toList < b.toList := by
  unfold less; rw [bless]; exact decide_eq_true_iff
theorem less_irr (a : ByteArray) : less a a = false := by
  rw [Bool.eq_false_iff]; intro h
  exact List.lt_irrefl _ ((less_iff a a).1 h)
theorem less_trans {a b c : ByteArray} (h : less a b = true) (k : less b c = true) : less a c = true :=
  (less_iff a c).2 (List.lt_trans ((less_iff a b).1 h) ((less_iff b c).1 k))
theorem properB_up {b : List Bd} (h : properB b = true) : ∀ (j i : Nat) (hi : i < b.length) (hj : j < b.length), i < j → less b[i].var b[j].var = true := by
  intro j
  induction j with
  | zero => intro i _ _ h; omega
  | succ j ih =>
    intro i hi hj hij
    have h1 := properB_at h hj
    unfold properAt at h1
    simp only [Bool.and_eq_true, Bool.or_eq_true, decide_eq_true_eq] at h1
    have h2 : less b[j].var b[j + 1].var = true := by
      rcases h1.2 with h2 | h2
      · omega
      · rw [Nat.add_sub_cancel, List.getElem?_eq_getElem (by omega)] at h2
        simpa using h2
    rcases Nat.lt_or_ge i j with h3 | h3
    · exact less_trans (ih i hi (by omega) h3) h2
    · obtain rfl : i = j := by omega
      exact h2
theorem look_at {b : List Bd} : ∀ (i : Nat) (hi : i < b.length), (∀ j (hj : j < i), b[j].var ≠ b[i].var) → look b b[i].var = some b[i].t := by
  induction b with
  | nil => intro i hi; simp at hi
  | cons x r ih =>
    intro i hi hd
    cases i with
    | zero => simp [look]
    | succ i =>
      have h0 := hd 0 (by omega)
      simp only [List.getElem_cons_zero, List.getElem_cons_succ] at h0 ⊢
      simp only [look, if_neg h0]
      exact ih i (by simpa using hi) (fun j hj => by have := hd (j + 1) (by omega); simpa using this)
theorem look_mem : ∀ {b : List Bd} {n : ByteArray} {v : T}, look b n = some v → ∃ x ∈ b, x.var = n ∧ x.t = v
  | [], n, v, h => by cases h
  | x :: r, n, v, h => by
    simp only [look] at h
    by_cases e : x.var = n
    · rw [if_pos e] at h; exact ⟨x, List.mem_cons_self, e, by simpa using h⟩
    · rw [if_neg e] at h
      obtain ⟨y, h1, h2⟩ := look_mem h
      exact ⟨y, List.mem_cons_of_mem _ h1, h2⟩
theorem proper_look {b : List Bd} (h : properB b = true) {x : Bd} (hx : x ∈ b) : look b x.var = some x.t := by
  obtain ⟨i, hi, rfl⟩ := List.getElem_of_mem hx
  refine look_at i hi fun j hj e => ?_
  have := properB_up h i j (by omega) hi hj
  rw [e, less_irr] at this
  cases this
def matT (p t : T) (b : List Bd) : Option (List Bd) := if p.valid && (t.use && properB b) then mat p t b else none
def fillT (p : T) (b : List Bd) : Option T := if p.valid then (match put p b with
  | some u => if u.valid then some u.norm else none
  | none => none) else none
/-- Are all bindings of a list in another one? -/
def keptB (a b : List Bd) : Bool := a.all fun y => b.any fun z => decide (y.var = z.var) && decide (cmp y.t z.t = 0)
theorem valid_shape {t : T} (h : t.valid = true) : t.shape = true := (Bool.and_eq_true_iff.1 h).2
theorem use_norm {t : T} (h : t.use = true) : t.norm = t := ((isN_iff t).1 (Bool.and_eq_true_iff.1 h).2).2
theorem use_closed {t : T} (h : t.use = true) : t.hasVar = false := by
  have := (Bool.and_eq_true_iff.1 (Bool.and_eq_true_iff.1 h).1).2
  simpa using this
theorem use_of {t : T} (h1 : t.valid = true) (h2 : t.hasVar = false) (h3 : t.norm = t) : t.use = true := by
  unfold use ground
  rw [h1, h2, (isN_iff t).2 ⟨h1, h3⟩]; rfl
theorem fillT_some {p t : T} {b : List Bd} (h : fillT p b = some t) : p.valid = true ∧ ∃ u, put p b = some u ∧ u.valid = true ∧ u.norm = t := by
  unfold fillT at h
  by_cases hp : p.valid = true
  · rw [if_pos hp] at h
    cases hu : put p b with
    | none => rw [hu] at h; cases h
    | some u =>
      rw [hu] at h
      by_cases hv : u.valid = true
      · simp only [if_pos hv, Option.some.injEq] at h
        exact ⟨hp, u, rfl, hv, h⟩
      · simp [hv] at h
  · rw [if_neg hp] at h; cases h
theorem fillT_of {p u : T} {b : List Bd} (h : p.valid = true) (hu : put p b = some u) (hv : u.valid = true) : fillT p b = some u.norm := by
  unfold fillT
  rw [if_pos h, hu]
  simp only [if_pos hv]
theorem matT_some {p t : T} {b x : List Bd} (h : matT p t b = some x) : p.valid = true ∧ t.use = true ∧ properB b = true ∧ mat p t b = some x := by
  unfold matT at h
  split at h
  · rename_i hc
    simp only [Bool.and_eq_true] at hc
    exact ⟨hc.1, hc.2.1, hc.2.2, h⟩
  · cases h
/-- If a term matches, the pattern with the bindings is the term, and the bindings from before are kept. -/
theorem fills_kept {p t : T} {b x : List Bd} (h : matT p t b = some x) : fillT p x = some t ∧ keptB b x = true := by
  obtain ⟨h1, h2, h3, h4⟩ := matT_some h
  have hs := valid_shape h1
  obtain ⟨u, h5, h6⟩ := mat_fill p t b x hs (use_norm h2) h4
  have hv : u.valid = true := valid_of_norm u (by rw [h6]; exact T.use_valid h2)
  refine ⟨by rw [fillT_of h1 h5 hv, h6], ?_⟩
  unfold keptB
  rw [List.all_eq_true]
  intro y hy
  obtain ⟨z, hz, e1, e2⟩ := look_mem (mat_ext p t b x hs h4 _ _ (proper_look h3 hy))
  rw [List.any_eq_true]
  exact ⟨z, hz, by rw [e1, e2, cmp_self]; simp⟩
/-- What is filled matches, with the same bindings. -/
theorem fills_all {p t : T} {b : List Bd} (h : fillT p b = some t) (hb : properB b = true) : t.use = true ∧ matT p t b = some b := by
  obtain ⟨h1, u, h2, h3, h4⟩ := fillT_some h
  subst h4
  have hl : ∀ n v, look b n = some v → v.use = true := fun n v e => by
    obtain ⟨x, hx, _, rfl⟩ := look_mem e
    exact (properB_use hb x hx).2
  have hu : u.norm.use = true := use_of (valid_norm u h3) (by rw [hasVar_norm]; exact put_closed p b u (fun n v e => use_closed (hl n v e)) h2) (norm_norm u)
  refine ⟨hu, ?_⟩
  unfold matT
  rw [h1, hu, hb]
  exact fill_mat p b u (fun n v e => use_norm (hl n v e)) (valid_shape h1) h2
end T
end Go.Proofs.YtihbmgkbipeakaaGreat
