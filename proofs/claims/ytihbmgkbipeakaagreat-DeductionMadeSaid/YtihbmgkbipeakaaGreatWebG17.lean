/- Several texts in one: WebMb, TermCmpD, WebV, WebSo, WebPt. -/
import Derived.Test.YtihbmgkbipeakaaGreatWebG15
import Derived.Test.YtihbmgkbipeakaaGreatWebG16
import Derived.Test.YtihbmgkbipeakaaGreatWebG1
import Derived.Deep.RegionHeld3
import Derived.Sort.Grow
import Derived.Test.YtihbmgkbipeakaaGreatShelfH
import Derived.Shelf.SlicesE.IndexFunc
import Derived.Shelf.SlicesQ.IndexFunc
import Derived.Test.YtihbmgkbipeakaaGreatWebG3
import Derived.Shelf.SlSortCmp.WholeK
import Derived.Shelf.SlSortCmp.NoneTotal
import Derived.Test.YtihbmgkbipeakaaGreatWebG14
namespace Go.Proofs.YtihbmgkbipeakaaGreat

/-- The term that a place of a list holds. -/
def tO (out : List Rsn) (j : Nat) : T := (out[j]?.map Rsn.t).getD T.nil_
theorem tO_at {out : List Rsn} {j : Nat} (h : j < out.length) : tO out j = out[j].t := by unfold tO; rw [List.getElem?_eq_getElem h]; rfl
theorem tO_pre {out out' : List Rsn} (h : out <+: out') {j : Nat} (hj : j < out.length) : tO out' j = tO out j := by
  obtain ⟨r, rfl⟩ := h
  rw [tO_at hj, tO_at (by simp; omega), List.getElem_append_left hj]
/-- Places that go over into others. -/
inductive Sent (g : Nat → Nat → Prop) : List Nat → List Nat → Prop
  | nil : Sent g [] []
  | cons {a b : Nat} {l m : List Nat} (h : g a b) (r : Sent g l m) : Sent g (a :: l) (b :: m)
theorem Sent.imp {g g' : Nat → Nat → Prop} : ∀ {l m : List Nat}, Sent g l m → (∀ a b, g a b → g' a b) → Sent g' l m
  | _, _, .nil, _ => .nil
  | _, _, .cons h r, hi => .cons (hi _ _ h) (r.imp hi)
theorem Sent.snd {g : Nat → Nat → Prop} {p : Nat → Prop} : ∀ {l m : List Nat}, Sent g l m → (∀ a b, g a b → p b) → ∀ x ∈ m, p x
  | _, _, .nil, _, x, hx => by cases hx
  | _, _, .cons h r, hi, x, hx => by
    rcases List.mem_cons.1 hx with rfl | hx
    · exact hi _ _ h
    · exact r.snd hi x hx
theorem Rt.sent {K : T → Prop} {a a' : Nat → T} {t : T} {how : Nat} {js ms : List Nat} (h : Rt K a t how js) (hs : Sent (fun j m => a' m = a j) js ms) : Rt K a' t how ms := by
  cases h with
  | known h => cases hs; exact .known h
  | first h3 h => cases hs with | cons e r => cases r; exact .first (by rw [e]; exact h3) (by rw [e]; exact h)
  | second h3 h => cases hs with | cons e r => cases r; exact .second (by rw [e]; exact h3) (by rw [e]; exact h)
  | opened h5 hk h => cases hs with | cons e r => cases r with | cons e2 r => cases r; exact .opened (by rw [e]; exact h5) (by rw [e, e2]; exact hk) (by rw [e]; exact h)
  | signed h6 h => cases hs with | cons e r => cases r; exact .signed (by rw [e]; exact h6) (by rw [e]; exact h)
  | pair h3 h0 h1 => cases hs with | cons e r => cases r with | cons e2 r => cases r; exact .pair h3 (by rw [e]; exact h0) (by rw [e2]; exact h1)
  | hash h4 h0 => cases hs with | cons e r => cases r; exact .hash h4 (by rw [e]; exact h0)
  | seal_ h3 h0 h1 => cases hs with | cons e r => cases r with | cons e2 r => cases r; exact .seal_ h3 (by rw [e]; exact h0) (by rw [e2]; exact h1)
  | sign h3 h0 h1 => cases hs with | cons e r => cases r with | cons e2 r => cases r; exact .sign h3 (by rw [e]; exact h0) (by rw [e2]; exact h1)
  | power h7 h1 hi hp hn => cases hs with | cons e r => cases r with | cons e2 r => cases r; exact .power h7 h1 hi (by rw [e]; exact hp) (by rw [e2]; exact hn)
  | raise h7 h1 hn => cases hs with | cons e r => cases r; exact .raise h7 h1 (by rw [e]; exact hn)
namespace Wb
/-- A step of the list is right. -/
def RtO (K : T → Prop) (out : List Rsn) (s : Rsn) (k : Nat) : Prop := ∃ (how : Nat) (frm : List Nat), s.how = (how : Int) ∧ s.frm = frm.map (fun (n : Nat) => (n : Int)) ∧ (∀ j ∈ frm, j < k) ∧ Rt K (tO out) s.t how frm
theorem RtO.pre {K : T → Prop} {out out' : List Rsn} {s : Rsn} {k : Nat} (h : RtO K out s k) (hk : k ≤ out.length) (hp : out <+: out') : RtO K out' s k := by
  obtain ⟨how, frm, h1, h2, h3, h4⟩ := h
  exact ⟨how, frm, h1, h2, h3, h4.congr fun j hj => tO_pre hp (by have := h3 j hj; omega)⟩
structure NdS (K : T → Prop) (W : List Stp) (is : List Nat) (out : List Rsn) (pl : List (Nat × Nat)) : Prop where
  len : is.length = out.length
  look : ∀ i k, pl.lookup i = some k ↔ is[k]? = some i
  nod : is.Nodup
  lt : ∀ x ∈ is, x < W.length
  term : ∀ k (h : k < out.length) (h' : k < is.length), out[k].t = termAt W is[k]
  right : ∀ k (h : k < out.length), RtO K out out[k] k
theorem NdS.nil (K : T → Prop) (W : List Stp) : NdS K W [] [] [] := ⟨rfl, fun i k => by simp, List.nodup_nil, fun x h => (by cases h), fun k h => absurd h (Nat.not_lt_zero _), fun k h => absurd h (Nat.not_lt_zero _)⟩
theorem NdS.push {K : T → Prop} {W : List Stp} {is : List Nat} {out : List Rsn} {pl : List (Nat × Nat)} (h : NdS K W is out pl) {i : Nat} (hi : i < W.length) (hn : i ∉ is) (s : Rsn) (hs : s.t = termAt W i) (hr : RtO K out s out.length) :
    NdS K W (is ++ [i]) (out ++ [s]) ((i, out.length) :: pl) := by
  have hl := h.len
  have hp : out <+: out ++ [s] := List.prefix_append _ _
  refine ⟨by simp [hl], fun x k => ?_, ?_, fun x hx => ?_, fun k hk hk' => ?_, fun k hk => ?_⟩
  · rw [List.lookup_cons]
    by_cases e : x = i
    · subst e
      have e1 : (x == x) = true := by simp
      rw [e1]
      constructor
      · intro h'; injection h' with h'; subst h'
        rw [← hl]; simp
      · intro h'
        rcases Nat.lt_or_ge k is.length with g | g
        · rw [List.getElem?_append_left g] at h'
          exact absurd (List.mem_of_getElem? h') hn
        · rw [List.getElem?_append_right g] at h'
          have : k - is.length = 0 := by
            cases hh : k - is.length with
            | zero => rfl
            | succ n => rw [hh] at h'; simp at h'
          show some out.length = some k
          congr 1; omega
    · have e1 : (x == i) = false := beq_eq_false_iff_ne.2 e
      rw [e1]
      constructor
      · intro h'
        have := (h.look x k).1 h'
        have hk := (List.getElem?_eq_some_iff.1 this).1
        rw [List.getElem?_append_left hk]; exact this
      · intro h'
        rcases Nat.lt_or_ge k is.length with g | g
        · rw [List.getElem?_append_left g] at h'
          exact (h.look x k).2 h'
        · rw [List.getElem?_append_right g] at h'
          cases hh : k - is.length with
          | zero => rw [hh] at h'; simp at h'; exact absurd h'.symm e
          | succ n => rw [hh] at h'; simp at h'
  · exact List.nodup_append.2 ⟨h.nod, by simp, fun a ha b hb e => by rw [List.mem_singleton] at hb; subst hb; subst e; exact hn ha⟩
  · rcases List.mem_append.1 hx with hx | hx
    · exact h.lt x hx
    · rw [List.mem_singleton] at hx; rw [hx]; exact hi
  · by_cases hkl : k < out.length
    · rw [List.getElem_append_left hkl, List.getElem_append_left (by omega)]
      exact h.term k hkl (by omega)
    · have e : k = out.length := by simp at hk; omega
      subst e
      rw [List.getElem_append_right (Nat.le_refl _), List.getElem_append_right (by omega)]
      simpa using hs
  · by_cases hkl : k < out.length
    · rw [List.getElem_append_left hkl]
      exact (h.right k hkl).pre (by omega) hp
    · have e : k = out.length := by simp at hk; omega
      subst e
      rw [List.getElem_append_right (Nat.le_refl _)]
      simpa using hr.pre (Nat.le_refl _) hp
/-- What the recursion gives. -/
def NdG (K : T → Prop) (W : List Stp) (i : Nat) (rec : List Rsn → List (Nat × Nat) → Nat → NdR) : Prop := ∀ is out pl, NdS K W is out pl → ∃ is', NdS K W is' (rec out pl i).1.1 (rec out pl i).1.2 ∧ (∀ x ∈ is', x ∈ is ∨ x ≤ i) ∧ out <+: (rec out pl i).1.1 ∧ (rec out pl i).2 < (rec out pl i).1.1.length ∧ tO (rec out pl i).1.1 (rec out pl i).2 = termAt W i
theorem ndl_R {K : T → Prop} {W : List Stp} {b : Nat} {rec : List Rsn → List (Nat × Nat) → Nat → NdR} : ∀ (js : List Nat), (∀ j ∈ js, j < b ∧ NdG K W j rec) → ∀ is out pl ks, NdS K W is out pl →
    ∃ is' ms, NdS K W is' (ndl rec js out pl ks).1.1 (ndl rec js out pl ks).1.2 ∧ (∀ x ∈ is', x ∈ is ∨ x < b) ∧ out <+: (ndl rec js out pl ks).1.1 ∧ (ndl rec js out pl ks).2 = ks ++ ms.map (fun (n : Nat) => (n : Int)) ∧
      Sent (fun j m => m < (ndl rec js out pl ks).1.1.length ∧ tO (ndl rec js out pl ks).1.1 m = termAt W j) js ms
  | [], _, is, out, pl, ks, h => ⟨is, [], h, fun x hx => .inl hx, List.prefix_refl _, by simp [ndl], .nil⟩
  | j :: js, hj, is, out, pl, ks, h => by
    obtain ⟨h1, h2⟩ := hj j (by simp)
    obtain ⟨is1, a1, a2, a3, a4, a5⟩ := h2 is out pl h
    obtain ⟨is2, ms, b1, b2, b3, b4, b5⟩ := ndl_R js (fun x hx => hj x (List.mem_cons_of_mem _ hx)) is1 (rec out pl j).1.1 (rec out pl j).1.2 (ks ++ [((rec out pl j).2 : Int)]) a1
    refine ⟨is2, (rec out pl j).2 :: ms, b1, fun x hx => ?_, a3.trans b3, by show (ndl rec js _ _ _).2 = _; rw [b4]; simp, .cons ⟨Nat.lt_of_lt_of_le a4 b3.length_le, (tO_pre b3 a4).trans a5⟩ b5⟩
    rcases b2 x hx with h7 | h7
    · rcases a2 x h7 with h8 | h8
      · exact .inl h8
      · right; omega
    · exact .inr h7
theorem look_none {K : T → Prop} {W : List Stp} {is : List Nat} {out : List Rsn} {pl : List (Nat × Nat)} (h : NdS K W is out pl) {i : Nat} (hl : pl.lookup i = none) : i ∉ is := fun hm => by
  obtain ⟨k, hk, e⟩ := List.getElem_of_mem hm
  have := (h.look i k).2 (by rw [List.getElem?_eq_getElem hk, e])
  rw [hl] at this; cases this
theorem nd_R {K : T → Prop} {W : List Stp} (hO : Ord W) (hR : RW K W) : ∀ (f i : Nat), i < f → i < W.length → NdG K W i (nd f W)
  | 0, i, h, _ => absurd h (Nat.not_lt_zero _)
  | f + 1, i, hf, hi => fun is out pl hI => by
    have hk : ∀ j ∈ frmAt W i, j < i ∧ NdG K W j (nd f W) := fun j hj => by
      rw [frm_at hi] at hj
      have h1 := (hO i hi).2 j hj
      exact ⟨h1, nd_R hO hR f j (by omega) (by omega)⟩
    cases hl : pl.lookup i with
    | some k =>
      rw [nd_known hl]
      have h1 := (hI.look i k).1 hl
      obtain ⟨hk1, hk2⟩ := List.getElem?_eq_some_iff.1 h1
      have hko : k < out.length := by have := hI.len; omega
      exact ⟨is, hI, fun x hx => .inl hx, List.prefix_refl _, hko, by show tO out k = _; rw [tO_at hko, hI.term k hko hk1, hk2]⟩
    | none =>
      rw [nd_new hl]
      obtain ⟨is1, ms, b1, b2, b3, b4, b5⟩ := ndl_R (frmAt W i) hk is out pl [] hI
      rw [List.nil_append] at b4
      generalize ndl (nd f W) (frmAt W i) out pl [] = q at b1 b3 b4 b5
      have hni : i ∉ is1 := fun hm => by
        rcases b2 i hm with h3 | h3
        · exact look_none hI hl h3
        · omega
      have hrt := (hR i hi).2
      rw [← term_at hi, ← how_at hi, ← frm_at hi] at hrt
      have hst : RtO K q.1.1 ⟨termAt W i, (howAt W i : Int), q.2⟩ q.1.1.length := ⟨howAt W i, ms, rfl, b4, fun j hj => b5.snd (p := (· < q.1.1.length)) (fun _ _ h => h.1) j hj, hrt.sent (b5.imp fun _ _ h => h.2)⟩
      refine ⟨is1 ++ [i], b1.push hi hni _ rfl hst, fun x hx => ?_, b3.trans (List.prefix_append _ _), by show q.1.1.length < (q.1.1 ++ [_]).length; simp, ?_⟩
      · rcases List.mem_append.1 hx with hx | hx
        · rcases b2 x hx with h3 | h3
          · exact .inl h3
          · right; omega
        · rw [List.mem_singleton] at hx; right; omega
      · show tO (q.1.1 ++ [_]) q.1.1.length = _
        rw [tO_at (by simp)]
        simp
end Wb
/-- A right deduction of a goal. -/
structure DedOk (K : T → Prop) (L : List Rsn) (t : T) : Prop where
  pos : 0 < L.length
  right : ∀ k (h : k < L.length), Wb.RtO K L L[k] k
  apart : ∀ i k (h : i < L.length) (h' : k < L.length), L[i].t = L[k].t → i = k
  last : ∀ (h : L.length - 1 < L.length), L[L.length - 1].t = t
theorem der_right {U K : List T} (hU : Uni U) (hK : ∀ t ∈ K, t ∈ U) {t : T} (ht : t.use = true → t ∈ U) {N : Nat} {L : List Rsn} (h : derV (Wb.fill N K) t = some L) : t.use = true ∧ DedOk (· ∈ K) L t ∧ L.length ≤ U.length ∧ ∀ s ∈ L, s.t ∈ U := by
  unfold derV at h
  split at h
  · rename_i hu
    have hI0 : Inv U (Wb.fill N K) := by
      have h0 := Wb.start_inv hK K.length
      rw [List.take_of_length_le (Nat.le_refl _)] at h0
      exact (Wb.run_facts hU ⟨#[]⟩ N _ _ h0).1
    obtain ⟨i, hi, e⟩ := Option.map_eq_some_iff.1 h
    obtain ⟨p1, _, p3⟩ := Wb.bld_inv hU (ht hu) hI0
    have hil := p3 i hi
    have hO := Wb.bld_ord hU (ht hu) hI0 (Wb.fill_ord hU hK N)
    obtain ⟨r1, r2⟩ := Wb.bld_R hU (ht hu) hI0 (Wb.fill_R hU hK N)
    have hti := r2 i hi
    obtain ⟨is, a1, _, _, _, _⟩ := Wb.nd_R hO r1 (i + 1) i (Nat.lt_succ_self _) hil [] [] [] (Wb.NdS.nil _ _)
    have hI := Wb.nd_inv hO (i + 1) i (Nat.lt_succ_self _) hil [] [] (Wb.NdI.nil _)
    have hlen := hI.1.len
    rw [e] at a1 hlen
    have hnew : L = (Wb.ndl (Wb.nd i (Wb.bld (Wb.fill N K) t).1) (Wb.frmAt (Wb.bld (Wb.fill N K) t).1 i) [] [] []).1.1 ++ [⟨Wb.termAt (Wb.bld (Wb.fill N K) t).1 i, (Wb.howAt (Wb.bld (Wb.fill N K) t).1 i : Int), (Wb.ndl (Wb.nd i (Wb.bld (Wb.fill N K) t).1) (Wb.frmAt (Wb.bld (Wb.fill N K) t).1 i) [] [] []).2⟩] := by
      rw [← e, Wb.nd_new (by rfl)]
    refine ⟨hu, ⟨by rw [hnew]; simp, a1.right, fun x y hx hy exy => ?_, fun hh => ?_⟩, Nat.le_trans hlen p1.len, fun s hs => ?_⟩
    · have hl := a1.len
      rw [a1.term x hx (by omega), a1.term y hy (by omega)] at exy
      have g1 := a1.lt _ (List.getElem_mem (show x < is.length by omega))
      have g2 := a1.lt _ (List.getElem_mem (show y < is.length by omega))
      rw [Wb.term_at g1, Wb.term_at g2] at exy
      have hap := p1.apart
      have := (List.getElem_inj (i := is[x]) (j := is[y]) (h₀ := by rw [List.length_map]; exact g1) (h₁ := by rw [List.length_map]; exact g2) hap).1 (by rw [List.getElem_map, List.getElem_map, exy])
      exact (List.getElem_inj a1.nod).1 this
    · have : ∀ (M : List Rsn) (s : Rsn) (hh : (M ++ [s]).length - 1 < (M ++ [s]).length), (M ++ [s])[(M ++ [s]).length - 1].t = s.t := fun M s hh => by
        have e : (M ++ [s])[(M ++ [s]).length - 1] = s := by
          rw [List.getElem_append_right (by simp)]; simp
        rw [e]
      subst hnew
      exact (this _ _ hh).trans hti
    · obtain ⟨k, hk, rfl⟩ := List.getElem_of_mem hs
      have hl := a1.len
      rw [a1.term k hk (by omega)]
      have g1 := a1.lt _ (List.getElem_mem (show k < is.length by omega))
      rw [Wb.term_at g1]
      exact p1.mem _ (List.getElem_mem g1)
  · cases h
end Go.Proofs.YtihbmgkbipeakaaGreat

namespace Go.Proofs.YtihbmgkbipeakaaGreat
open Go.RowKit

/-- Below, and the draws have not become fewer. -/
structure BelowD (B : Nat) (w w' : World) : Prop extends Below B w w' where
  drawn : w.drawn ≤ w'.drawn
theorem BelowD.refl (B : Nat) (w : World) : BelowD B w w := ⟨Below.refl B w, Nat.le_refl _⟩
theorem BelowD.trans {B : Nat} {a b c : World} (h : BelowD B a b) (k : BelowD B b c) : BelowD B a c := ⟨h.toBelow.trans k.toBelow, Nat.le_trans h.drawn k.drawn⟩
theorem BelowD.mono {B B' : Nat} {w w' : World} (h : BelowD B w w') (hB : B' ≤ B) : BelowD B' w w' := ⟨h.toBelow.mono hB, h.drawn⟩
theorem BelowD.drew {B : Nat} {a w : World} (h : BelowD B a w) : BelowD B a w.drew := ⟨h.toBelow.drew, Nat.le_succ_of_le h.drawn⟩
theorem BelowD.alloc {B : Nat} {a w : World} (h : BelowD B a w) (hB : B ≤ w.heap.size) (o : Obj) : BelowD B a (w.alloc o) := ⟨h.toBelow.alloc hB o, h.drawn⟩
theorem below_two (w : World) (a b c a' b' c' : Value) (t : TypeId) : BelowD w.heap.size w ((w.alloc (.cells #[a, b, c] t)).alloc (.cells #[a', b', c'] t)) := ⟨(boxed_two w a b c a' b' c' t).2.2, Nat.le_refl _⟩

set_option maxRecDepth 100000 in
set_option maxHeartbeats 2000000 in
/-- slices.CompareFunc over two lists of kids, given what Compare says of each pair. -/
theorem cmp_funcD (A A' : Option Addr) (cap cap' : Nat) (ks ks' : List T) (U U' : Nat → Value × Value × Value) (w : World) (hkn : ks.length ≤ 1048576) (_hkn' : ks'.length ≤ 1048576)
    (hA : ks.length = 0 ∨ ∃ b off, A = some ⟨b, off, none⟩ ∧ ∀ i, i < ks.length → w.cell? ⟨b, off + i * 3, none⟩ = some (U i).1 ∧ w.cell? ⟨b, off + i * 3 + 1, none⟩ = some (U i).2.1 ∧ w.cell? ⟨b, off + i * 3 + 2, none⟩ = some (U i).2.2)
    (hU : ∀ i (h : i < ks.length), TermAt w (.agg #[(U i).1, (U i).2.1, (U i).2.2]) ks[i])
    (hA' : ks'.length = 0 ∨ ∃ b off, A' = some ⟨b, off, none⟩ ∧ ∀ i, i < ks'.length → w.cell? ⟨b, off + i * 3, none⟩ = some (U' i).1 ∧ w.cell? ⟨b, off + i * 3 + 1, none⟩ = some (U' i).2.1 ∧ w.cell? ⟨b, off + i * 3 + 2, none⟩ = some (U' i).2.2)
    (hU' : ∀ i (h : i < ks'.length), TermAt w (.agg #[(U' i).1, (U' i).2.1, (U' i).2.2]) ks'[i])
    (hC : ∀ j (h : j < ks.length) (h' : j < ks'.length) (v v' : Value) (W : World), TermAt W v ks[j] → TermAt W v' ks'[j] → Calls Tryz.prog 103 #[v, v'] W fun e w' => e = .returned (.int .i64 (T.cmp ks[j] ks'[j])) ∧ BelowD W.heap.size W w') :
    Calls Tryz.prog 137 #[.slice A ks.length cap, .slice A' ks'.length cap', .func (.func 103) #[] #[]] w fun e w' =>
      e = .returned (.int .i64 (T.cmpAll ks ks')) ∧ BelowD w.heap.size w w' := by
  have HC := Lib.hid hC; clear hC
  go_enter Tryz.func137, Tryz.ntmps137
  go_wp2_with fail
  go_loopw [13] (fun i wr => ∃ j : Nat, j ≤ ks.length ∧ j ≤ ks'.length ∧ i = .int .i64 j ∧ (∀ m (h : m < j) (h1 : m < ks.length) (h2 : m < ks'.length), T.cmp ks[m] ks'[m] = 0) ∧ BelowD w.heap.size w wr) (fun i _ => ks.length - (intOf i).toNat)
  case atStart => exact ⟨0, Nat.zero_le _, Nat.zero_le _, rfl, fun m h => absurd h (by omega), BelowD.refl _ _⟩
  case round =>
    obtain ⟨j, hj, hj', rfl, hz, hbl⟩ := hrel
    have HZ := Lib.hid hz; clear hz
    by_cases hlt : j < ks.length
    · obtain ⟨b, off, B1, C1, rfl, d0, d1, d2, hu⟩ := TermAt.cells hlt hA hU
      have e0 := cell_later hbl.toBelow d0; have e1 := cell_later hbl.toBelow d1; have e2 := cell_later hbl.toBelow d2
      have hi : (j : Int) < (ks.length : Int) := by omega
      clear d0 d1 d2
      by_cases hlt' : j < ks'.length
      · obtain ⟨b', off', B1', C1', rfl, d0', d1', d2', hu'⟩ := TermAt.cells hlt' hA' hU'
        have e0' := cell_later hbl.toBelow d0'; have e1' := cell_later hbl.toBelow d1'; have e2' := cell_later hbl.toBelow d2'
        clear d0' d1' d2'
        have hi' : (j : Int) < (ks'.length : Int) := by omega
        have f0 := cell_later ((Below.refl wr.heap.size wr).alloc (Nat.le_refl _) (.cells #[.int .i64 ks[j].kind, .string ks[j].name, .slice B1 ks[j].kids.length C1] 29)) e0'
        have f1 := cell_later ((Below.refl wr.heap.size wr).alloc (Nat.le_refl _) (.cells #[.int .i64 ks[j].kind, .string ks[j].name, .slice B1 ks[j].kids.length C1] 29)) e1'
        have f2 := cell_later ((Below.refl wr.heap.size wr).alloc (Nat.le_refl _) (.cells #[.int .i64 ks[j].kind, .string ks[j].name, .slice B1 ks[j].kids.length C1] 29)) e2'
        have hb2 := below_two wr (.int .i64 ks[j].kind) (.string ks[j].name) (.slice B1 ks[j].kids.length C1) (.int .i64 ks'[j].kind) (.string ks'[j].name) (.slice B1' ks'[j].kids.length C1') 29
        have HU := Lib.hid ((hu.later hbl.toBelow).later hb2.toBelow); have HU' := Lib.hid ((hu'.later hbl.toBelow).later hb2.toBelow)
        have HLT := Lib.hid hlt; have HLT' := Lib.hid hlt'
        have HAT := Lib.hid (fun hn => T.cmpAll_at ks ks' j hlt hlt' (fun m g => HZ.out m g (by omega) (by omega)) hn)
        obtain ⟨c, hcv⟩ : ∃ c, T.cmp ks[j] ks'[j] = c := ⟨_, rfl⟩
        have HCV := Lib.hid hcv
        have hc := HC.out j hlt hlt'
        have HC' := Lib.hid hc
        clear hcv hc hu hu'
        go_wp2_with fail
        refine (HC'.out _ _ _ HU.out HU'.out).mono ?_; rintro e w2 ⟨he, hb4⟩
        have he' : e = .returned (.int .i64 c) := he.trans (ret_i64 HCV.out)
        clear he; subst he'
        replace hb4 := hbl.trans ((hb2.trans (hb4.mono hb2.size)).mono hbl.size)
        clear f0 f1 f2 e0 e1 e2 e0' e1' e2'
        by_cases hc0 : c = 0
        · subst hc0
          go_wp2_with fail
          go_roundw
          case rel =>
            refine ⟨j + 1, HLT.out, HLT'.out, by go_num, fun m h g1 g2 => ?_, hb4⟩
            rcases Nat.lt_or_ge m j with g | g
            · exact HZ.out m g g1 g2
            · obtain rfl : m = j := by omega
              exact HCV.out
          case measure => have := HLT.out; simp [intOf]; omega
        · have hne : (c != 0) = true := by rw [bne_iff_ne]; exact hc0
          have HR := Lib.hid (HAT.out (fun h => hc0 (HCV.out.symm.trans h)))
          go_wp2_with fail
          go_ret
          exact ⟨ret_i64 (HCV.out.symm.trans HR.out.symm), hb4⟩
      · have hi' : (ks'.length : Int) ≤ (j : Int) := by omega
        have HL := Lib.hid (show T.cmpAll ks ks' = 1 by rw [T.cmpAll_len ks ks' (fun m g1 g2 => HZ.out m (by omega) g1 g2), if_neg (by omega), if_pos (by omega)])
        have hu1 := Lib.hid hu
        clear hu
        go_wp2_with fail
        go_ret
        exact ⟨ret_i64 HL.out.symm, hbl.alloc hbl.size _⟩
    · have hi : (ks.length : Int) ≤ (j : Int) := by omega
      have hl := T.cmpAll_len ks ks' (fun m g1 g2 => HZ.out m (by omega) g1 g2)
      by_cases g1 : ks.length < ks'.length
      · rw [if_pos g1] at hl
        have HL := Lib.hid hl; clear hl
        have q1 : (ks.length : Int) < (ks'.length : Int) := by omega
        go_wp2_with fail
        go_ret
        exact ⟨ret_i64 HL.out.symm, hbl⟩
      · rw [if_neg g1, if_neg (by omega)] at hl
        have HL := Lib.hid hl; clear hl
        have q1 : (ks'.length : Int) ≤ (ks.length : Int) := by omega
        go_wp2_with fail
        go_ret
        exact ⟨ret_i64 HL.out.symm, hbl⟩
/-- Six cells and a bound, as they stand while memory is made. -/
theorem six_laterD {w1 W W2 : World} {p0 p1 p2 p3 p4 p5 : Addr} {v0 v1 v2 v3 v4 v5 : Value} (h : W.cell? p0 = some v0 ∧ W.cell? p1 = some v1 ∧ W.cell? p2 = some v2 ∧ W.cell? p3 = some v3 ∧ W.cell? p4 = some v4 ∧ W.cell? p5 = some v5 ∧ BelowD w1.heap.size w1 W)
    (hb : BelowD W.heap.size W W2) : W2.cell? p0 = some v0 ∧ W2.cell? p1 = some v1 ∧ W2.cell? p2 = some v2 ∧ W2.cell? p3 = some v3 ∧ W2.cell? p4 = some v4 ∧ W2.cell? p5 = some v5 ∧ BelowD w1.heap.size w1 W2 := by
  obtain ⟨h0, h1, h2, h3, h4, h5, h6⟩ := h
  exact ⟨cell_later hb.toBelow h0, cell_later hb.toBelow h1, cell_later hb.toBelow h2, cell_later hb.toBelow h3, cell_later hb.toBelow h4, cell_later hb.toBelow h5, h6.trans (hb.mono h6.size)⟩

set_option maxRecDepth 100000 in
set_option maxHeartbeats 4000000 in
theorem ocmpD : ∀ (N : Nat) (t t' : T) (v v' : Value) (w : World), t.bulk < N → TermAt w v t → TermAt w v' t' → t.bulk ≤ 1048576 → t'.bulk ≤ 1048576 →
    Calls Tryz.prog 103 #[v, v'] w fun e w' => e = .returned (.int .i64 (t.cmp t')) ∧ BelowD w.heap.size w w' := by
  intro N
  induction N with
  | zero => intro t t' v v' w h; omega
  | succ N ih =>
    intro t t' v v' w hN ht ht' hbk hbk'
    cases ht with
    | mk k s A cap ks U h1 h2 h3 h4 hA hU =>
    cases ht' with
    | mk k' s' A' cap' ks' U' h1' h2' h3' h4' hA' hU' =>
      simp only [T.bulk] at hN hbk hbk'
      have hkn : ks.length ≤ 1048576 := by have := T.len_le ks; omega
      have hkn' : ks'.length ≤ 1048576 := by have := T.len_le ks'; omega
      rw [T.cmp_or3]
      obtain ⟨hbx, hbx', _⟩ := boxed_two w (.int .i64 k) (.string s) (.slice A ks.length cap) (.int .i64 k') (.string s') (.slice A' ks'.length cap') 29
      have hb1 := below_two w (.int .i64 k) (.string s) (.slice A ks.length cap) (.int .i64 k') (.string s') (.slice A' ks'.length cap') 29
      have ht := TermAt.mk k s A cap ks U h1 h2 h3 h4 hA hU
      go_enter Tryz.func103, Tryz.ntmps103
      go_upto_region 1 with fail
      generalize (w.alloc (.cells #[.int .i64 k, .string s, .slice A ks.length cap] 29)).alloc (.cells #[.int .i64 k', .string s', .slice A' ks'.length cap'] 29) = w1 at hbx hbx' hb1 ⊢
      obtain ⟨x0, x1, x2⟩ := hbx
      obtain ⟨y0, y1, y2⟩ := hbx'
      have bA := Lib.hid hA; have bU := Lib.hid hU; have bA' := Lib.hid hA'; have bU' := Lib.hid hU'
      have hF : ∀ W, BelowD w1.heap.size w1 W → Calls Tryz.prog 137 #[.slice A ks.length cap, .slice A' ks'.length cap', .func (.func 103) #[] #[]] W fun e w' =>
          e = .returned (.int .i64 (T.cmpAll ks ks')) ∧ BelowD W.heap.size W w' := fun W hW => by
        have hWw := hb1.trans (hW.mono hb1.size)
        refine cmp_funcD A A' cap cap' ks ks' U U' W hkn hkn' ?_ (fun i h => (hU i h).later hWw.toBelow) ?_ (fun i h => (hU' i h).later hWw.toBelow) ?_
        · rcases hA with h | ⟨b, off, e, hc⟩
          · exact .inl h
          · exact .inr ⟨b, off, e, fun i hi => by obtain ⟨c0, c1, c2⟩ := hc i hi; exact ⟨cell_later hWw.toBelow c0, cell_later hWw.toBelow c1, cell_later hWw.toBelow c2⟩⟩
        · rcases hA' with h | ⟨b, off, e, hc⟩
          · exact .inl h
          · exact .inr ⟨b, off, e, fun i hi => by obtain ⟨c0, c1, c2⟩ := hc i hi; exact ⟨cell_later hWw.toBelow c0, cell_later hWw.toBelow c1, cell_later hWw.toBelow c2⟩⟩
        · intro j h h' v v' W' hv hv'
          have := T.bulk_at ks j h; have := T.bulk_at ks' j h'
          exact ih _ _ _ _ _ (by omega) hv hv' (by omega) (by omega)
      have HF := Lib.hid hF
      clear hA hU hA' hU' ht hF
      go_region_held3 (fun W => W.cell? ⟨w.heap.size, 0, none⟩ = some (.int .i64 k) ∧ W.cell? ⟨w.heap.size, 1, none⟩ = some (.string s) ∧ W.cell? ⟨w.heap.size, 2, none⟩ = some (.slice A ks.length cap) ∧ W.cell? ⟨w.heap.size + 1, 0, none⟩ = some (.int .i64 k') ∧ W.cell? ⟨w.heap.size + 1, 1, none⟩ = some (.string s') ∧ W.cell? ⟨w.heap.size + 1, 2, none⟩ = some (.slice A' ks'.length cap') ∧ BelowD w1.heap.size w1 W)
        (first | exact ⟨x0, x1, x2, y0, y1, y2, BelowD.refl _ _⟩ | exact ⟨x0, x1, x2, y0, y1, y2, (BelowD.refl _ _).drew⟩ | exact six_laterD (by assumption) hb4 | exact six_laterD (by assumption) ((BelowD.refl _ _).alloc (Nat.le_refl _) _) | go_keep)
        (first | (go_at_call 135; refine (cmp_int _ _ _).mono ?_; rintro e w' ⟨rfl, rfl⟩) | (go_at_call 136; refine (cmp_str _ _ _).mono ?_; rintro e w' ⟨rfl, rfl⟩) | (go_at_call 137; refine (HF.out _ (by first | assumption | exact BelowD.refl _ _ | exact (BelowD.refl _ _).drew)).mono ?_; rintro e w2 ⟨rfl, hb4⟩) | (go_at_call 134; refine (cmp_or _ _ _ _ _ _ (boxed_new _ _ _ _ _).1 (boxed_new _ _ _ _ _).2.1 (boxed_new _ _ _ _ _).2.2).mono ?_; rintro e w' ⟨rfl, rfl⟩))
      all_goals
        rename_i hS
        have hb5 := hS.2.2.2.2.2.2
        clear hS x0 x1 x2 y0 y1 y2
        go_wp2_with fail
        go_ret
        exact ⟨rfl, hb1.trans (hb5.mono hb1.size)⟩
/-- As the sort asks it. -/
theorem BelowD.grow {w w' : World} (h : BelowD w.heap.size w w') : ∃ q os, w' = Go.Sort.grow (w.drewN q) os := by
  refine ⟨w'.drawn - w.drawn, w'.heap.extract w.heap.size w'.heap.size, ?_⟩
  have hd := h.drawn
  have hh : w'.heap = w.heap ++ w'.heap.extract w.heap.size w'.heap.size := by
    apply Array.ext_getElem?
    intro i
    have hs := h.size
    rw [Array.getElem?_append]
    split
    · rename_i hi; exact h.block i hi
    · rename_i hi
      rw [Array.getElem?_extract]
      split
      · congr 1; omega
      · rw [Array.getElem?_eq_none (by omega)]
  obtain ⟨h1, t1, d1, o1, u1⟩ := w'
  have e1 := h.os; have e2 := h.tape; have e3 := h.output
  dsimp only at hd hh e1 e2 e3 ⊢
  unfold Go.Sort.grow World.drewN
  dsimp only
  congr 1
  omega
end Go.Proofs.YtihbmgkbipeakaaGreat

namespace Go.Proofs.YtihbmgkbipeakaaGreat
open Go.RowKit

def sameB (t t' : T) : Bool := decide (t.cmp t' = 0)
set_option maxRecDepth 100000 in
set_option maxHeartbeats 4000000 in
theorem osame (t t' : T) (v v' : Value) (w : World) (ht : TermAt w v t) (ht' : TermAt w v' t') (hb : t.bulk ≤ 1048576) (hb' : t'.bulk ≤ 1048576) :
    Calls Tryz.prog 86 #[v, v'] w fun e w' => e = .returned (.bool (sameB t t')) ∧ Below w.heap.size w w' := by
  unfold sameB
  cases ht with
  | mk k s A cap ks U h1 h2 h3 h4 hA hU =>
  cases ht' with
  | mk k' s' A' cap' ks' U' h1' h2' h3' h4' hA' hU' =>
    have hc := fun W hW hW' => ocmp ((T.mk k s ks).bulk + 1) (.mk k s ks) (.mk k' s' ks') (.agg #[.int .i64 k, .string s, .slice A ks.length cap]) (.agg #[.int .i64 k', .string s', .slice A' ks'.length cap']) W (by omega) hW hW' hb hb'
    have ht := TermAt.mk k s A cap ks U h1 h2 h3 h4 hA hU
    have ht' := TermAt.mk k' s' A' cap' ks' U' h1' h2' h3' h4' hA' hU'
    have HC := Lib.hid hc; have HT := Lib.hid ht; have HT' := Lib.hid ht'
    obtain ⟨c, hcv⟩ : ∃ c, (T.mk k s ks).cmp (.mk k' s' ks') = c := ⟨_, rfl⟩
    have HCV := Lib.hid hcv
    clear hc ht ht' hA hA' hU hU' hcv
    go_enter Tryz.func86, Tryz.ntmps86
    go_wp2_with fail
    have hb1 := (boxed_two w (.int .i64 k) (.string s) (.slice A ks.length cap) (.int .i64 k') (.string s') (.slice A' ks'.length cap') 29).2.2
    refine (HC.out _ (HT.out.later hb1) (HT'.out.later hb1)).mono ?_; rintro e w2 ⟨rfl, hb4⟩
    replace hb4 := hb1.trans (hb4.mono hb1.size)
    rw [HCV.out]
    go_wp2_with fail
    go_ret
    exact ⟨ret_bool (by rw [HCV.out, Bool.eq_iff_iff, beq_iff_eq, decide_eq_true_eq]), hb4⟩

/-- Is a number none of the places ahead of i. -/
def offB (i : Nat) (x : Int) : Bool := decide (x < 0) || decide ((i : Int) ≤ x)
set_option maxRecDepth 100000 in
theorem off_gives (i bi : Nat) (w : World) (hc : w.cell? ⟨bi, 0, none⟩ = some (.int .i64 (i : Int))) : PredAt Tryz.prog 83 #[.pointer (some ⟨bi, 0, none⟩)] (Value.int .i64) (offB i) w := fun W x hb => by
  have hl := World.block_lt_of_cell? w _ hc
  have hcW := cell_later hb hc
  show Calls Tryz.prog 83 #[.int .i64 x, .pointer (some ⟨bi, 0, none⟩)] W _
  by_cases h : x < 0
  · have hB : offB i x = true := by unfold offB; rw [decide_eq_true h]; rfl
    rw [hB]
    clear hb hl hB hc
    go_enter Tryz.func83, Tryz.ntmps83
    go_wp2_with fail
    go_ret
    exact ⟨rfl, 0, rfl⟩
  · have hB : offB i x = decide ((i : Int) ≤ x) := by unfold offB; rw [decide_eq_false h]; rfl
    rw [hB]
    clear hb hl hB hc
    go_enter Tryz.func83, Tryz.ntmps83
    go_wp2_with fail
    go_ret
    exact ⟨rfl, 0, rfl⟩
theorem oints {F : Option Addr} {fc bi i : Nat} {ns : List Int} (w : World) (hF : IntsIn (fun _ => true) w F ns) (hc : w.cell? ⟨bi, 0, none⟩ = some (.int .i64 (i : Int))) (hl : ns.length ≤ 1048576) :
    Calls Tryz.prog 82 #[.slice F ns.length fc, .func (.func 83) #[] #[.pointer (some ⟨bi, 0, none⟩)]] w fun e w' => e = .returned (.bool (ns.any (offB i))) ∧ Below w.heap.size w w' := by
  rcases hF with h0 | ⟨b, off, rfl, _, hcell⟩
  · have hn : ns = [] := List.eq_nil_of_length_eq_zero h0
    subst hn
    have h := AnyE.slices_ContainsFunc_empty (P := Tryz.prog) Tryz.layCi F fc (.func (.func 83) #[] #[.pointer (some ⟨bi, 0, none⟩)]) w
    change Calls Tryz.prog 82 _ _ _ at h
    refine h.mono ?_
    rintro e w' ⟨rfl, rfl⟩
    exact ⟨rfl, Below.refl _ _⟩
  · have eg : ∀ args w, (callFunc 83 args).run Tryz.prog w = .ok (.enter 83 args) w := enters_of Tryz.func83 (by kernel_rfl) rfl
    have h := AnyE.slices_ContainsFunc (P := Tryz.prog) Tryz.layCi (Value.int .i64) (offB i) 83 #[.pointer (some ⟨bi, 0, none⟩)] eg b off ns.length fc ns w (off_gives i bi w hc) (Nat.le_refl _) (by omega) (fun j hj => by rw [getElem!_pos ns j hj]; exact hcell j hj)
    change Calls Tryz.prog 82 _ _ _ at h
    refine h.mono ?_
    rintro e w' ⟨rfl, q, rfl⟩
    rw [List.take_length]
    exact ⟨rfl, below_drewN (Below.refl _ _) q⟩
/-- A term and its cells. -/
def TCell (w : World) : Type := { x : (Int × ByteArray × Option Addr × Nat × Nat) × T // TermAt w (.agg #[.int .i64 x.1.1, .string x.1.2.1, .slice x.1.2.2.1 x.1.2.2.2.1 x.1.2.2.2.2]) x.2 ∧ x.2.bulk ≤ 1048576 }
instance (w : World) : Inhabited (TCell w) := ⟨⟨((0, ⟨#[]⟩, none, 0, 0), .mk 0 ⟨#[]⟩ []), TermAt.mk 0 ⟨#[]⟩ none 0 [] (fun _ => (undef, undef, undef)) (by decide) (by decide) (Nat.le_refl _) (Nat.zero_le _) (.inl rfl) (fun i h => by simp at h), by decide⟩⟩
def TCell.enc {w : World} (x : TCell w) : List Value := [.int .i64 x.1.1.1, .string x.1.1.2.1, .slice x.1.1.2.2.1 x.1.1.2.2.2.1 x.1.1.2.2.2.2]
set_option maxRecDepth 100000 in
theorem same_gives (s : T) (bs : Nat) (A : Option Addr) (c : Nat) (w : World) (c0 : w.cell? ⟨bs, 0, none⟩ = some (.int .i64 s.kind)) (c1 : w.cell? ⟨bs, 1, none⟩ = some (.string s.name)) (c2 : w.cell? ⟨bs, 2, none⟩ = some (.slice A s.kids.length c))
    (hs : TermAt w (.agg #[.int .i64 s.kind, .string s.name, .slice A s.kids.length c]) s) (hb : s.bulk ≤ 1048576) : PredBelow Tryz.prog 85 #[.pointer (some ⟨bs, 0, none⟩)] (fun x : TCell w => .agg x.enc.toArray) (fun x => sameB x.1.2 s) w := fun W x hB => by
  obtain ⟨⟨⟨k, nm, Ax, nx, cx⟩, t⟩, ht, htb⟩ := x
  show Calls Tryz.prog 85 #[.agg #[.int .i64 k, .string nm, .slice Ax nx cx], .pointer (some ⟨bs, 0, none⟩)] W fun e w' => e = .returned (.bool (sameB t s)) ∧ Below w.heap.size w w'
  have ht' : TermAt W (.agg #[.int .i64 k, .string nm, .slice Ax nx cx]) t := TermAt.later ht hB
  have hw := below_alloc1 W (.cells #[.int .i64 k, .string nm, .slice Ax nx cx] 29)
  have bx := Box.new W (.int .i64 k) (.string nm) (.slice Ax nx cx)
  have hbw := hB.trans (hw.mono hB.size)
  have HS := Lib.hid (fun W' (h1 : TermAt W' (.agg #[.int .i64 k, .string nm, .slice Ax nx cx]) t) h2 => osame t s _ (.agg #[.int .i64 s.kind, .string s.name, .slice A s.kids.length c]) W' h1 h2 htb hb)
  have HT := Lib.hid (ht'.later hw); have HSS := Lib.hid (hs.later hbw); have HB := Lib.hid hbw
  have d0 := cell_later hbw c0; have d1 := cell_later hbw c1; have d2 := cell_later hbw c2
  clear ht ht' hw hbw c0 c1 c2 hs hB
  generalize sameB t s = R at HS ⊢
  go_enter Tryz.func85, Tryz.ntmps85
  go_upto_region 1 with fail
  generalize W.alloc (.cells #[.int .i64 k, .string nm, .slice Ax nx cx] 29) = w1 at bx HT HSS HB d0 d1 d2 ⊢
  obtain ⟨x0, x1, x2⟩ := bx.cells
  clear bx
  go_wp2_with fail
  refine (HS.out _ HT.out HSS.out).mono ?_; rintro e w2 ⟨rfl, hb2⟩
  have HB2 := Lib.hid (HB.out.trans (hb2.mono HB.out.size))
  clear hb2 x0 x1 x2 d0 d1 d2
  go_wp2_with fail
  go_ret
  exact ⟨rfl, HB2.out⟩
end Go.Proofs.YtihbmgkbipeakaaGreat

namespace Go.Proofs.YtihbmgkbipeakaaGreat
open Go.RowKit Go.Sort

/-- A term of the row that is sorted: it lies apart from the row. -/
def SCell (w : World) (blk : Nat) : Type := { x : (Int × ByteArray × Option Addr × Nat × Nat) × T // TermIn (but 0 (some blk)) w (.agg #[.int .i64 x.1.1, .string x.1.2.1, .slice x.1.2.2.1 x.1.2.2.2.1 x.1.2.2.2.2]) x.2 ∧ x.2.bulk ≤ 1048576 }
instance (w : World) (blk : Nat) : Inhabited (SCell w blk) := ⟨⟨((0, ⟨#[]⟩, none, 0, 0), .mk 0 ⟨#[]⟩ []), atom_in _ _ 0 ⟨#[]⟩ (by decide) (by decide), by decide⟩⟩
def SCell.enc {w : World} {blk : Nat} (x : SCell w blk) : List Value := [.int .i64 x.1.1.1, .string x.1.1.2.1, .slice x.1.1.2.2.1 x.1.1.2.2.2.1 x.1.1.2.2.2.2]
def SCell.t {w : World} {blk : Nat} (x : SCell w blk) : T := x.1.2
def SCell.cf {w : World} {blk : Nat} (x y : SCell w blk) : Int := T.cmp x.t y.t
theorem scell_swo (w : World) (blk : Nat) : SWO (ltOf (SCell.cf (w := w) (blk := blk))) where
  irrefl x := by unfold ltOf SCell.cf; rw [T.cmp_self]; rfl
  trans x y z h1 h2 := by
    unfold ltOf SCell.cf at *
    rw [decide_eq_true_eq] at *
    have e1 : T.cmp x.t y.t = -1 := by rcases T.cmp_vals x.t y.t with h | h | h <;> omega
    have e2 : T.cmp y.t z.t = -1 := by rcases T.cmp_vals y.t z.t with h | h | h <;> omega
    rw [T.cmp_trans _ _ _ e1 e2]; decide
  ntrans x y z h1 h2 := by
    unfold ltOf SCell.cf at *
    rw [decide_eq_false_iff_not] at *
    intro h3
    have a1 := T.cmp_anti x.t y.t; have a2 := T.cmp_anti y.t z.t
    have e3 : T.cmp x.t z.t = -1 := by rcases T.cmp_vals x.t z.t with h | h | h <;> omega
    rcases T.cmp_vals x.t y.t with h | h | h
    · omega
    · have e := T.cmp_eq _ _ h
      rw [e] at e3; omega
    · rcases T.cmp_vals y.t z.t with g | g | g
      · omega
      · have e := T.cmp_eq _ _ g
        rw [e] at h; omega
      · have := T.cmp_trans z.t y.t x.t (by omega) (by omega)
        have a3 := T.cmp_anti x.t z.t
        omega
/-- Other blocks while the row is sorted. -/
theorem sortWorldK_block {α : Type} [Inhabited α] (enc : α → List Value) (k : Nat) (w : World) (blk off m : Nat) (dk : Array α) (os : Array Obj) (b : Nat) (hb : b < w.heap.size) (hn : b ≠ blk) : (sortWorldK enc k w blk off m dk os).heap[b]? = w.heap[b]? := by
  show ((w.heap.modify blk _) ++ os)[b]? = _
  rw [Array.getElem?_append_left (by simpa using hb), Array.getElem?_modify, if_neg (by omega)]
theorem sortWorldK_below {α : Type} [Inhabited α] (enc : α → List Value) (k : Nat) (w : World) (blk off m : Nat) (dk : Array α) (os : Array Obj) {B : Nat} (hB : B ≤ blk) (hl : blk < w.heap.size) : Below B w (sortWorldK enc k w blk off m dk os) := by
  refine ⟨rfl, rfl, rfl, ?_, fun b hb => sortWorldK_block enc k w blk off m dk os b (by omega) (by omega)⟩
  show w.heap.size ≤ ((w.heap.modify blk _) ++ os).size
  simp
theorem scell_lays {w : World} {blk : Nat} (off size : Nat) : CmpLays Tryz.prog 103 #[] (SCell.enc (w := w) (blk := blk)) 3 SCell.cf blk off size w := fun m os dk _ x y => by
  obtain ⟨⟨⟨k, s, A, n, c⟩, t⟩, ht, hb⟩ := x
  obtain ⟨⟨⟨k', s', A', n', c'⟩, t'⟩, ht', hb'⟩ := y
  have hk : ∀ b, but 0 (some blk) b = true → b < w.heap.size → (fun _ => true) b = true ∧ (sortWorldK (SCell.enc (w := w) (blk := blk)) 3 w blk off m dk os).heap[b]? = w.heap[b]? := fun b hb hl => ⟨rfl, sortWorldK_block _ _ _ _ _ _ _ _ b hl (fun e => (but_iff.1 hb).2 (by rw [e]))⟩
  have h := ocmpD (t.bulk + 1) t t' _ _ (sortWorldK (SCell.enc (w := w) (blk := blk)) 3 w blk off m dk os) (by omega) (ht.keep hk).at (ht'.keep hk).at hb hb'
  exact h.mono fun e w' ⟨he, hw⟩ => ⟨he, hw.grow⟩
/-- What the sort of a list of terms leaves. -/
def SortPost (base : Nat) (w : World) (A : Option Addr) (cap : Nat) (L : List T) (e : Ending) (w' : World) : Prop :=
  e = .returned (.tuple #[]) ∧ ∃ L', L'.Perm L ∧ L'.Pairwise (fun a b => ¬ T.cmp b a < 0) ∧ KnownAt w' A cap L' ∧ Below base w w'
theorem osort {base cap : Nat} {A : Option Addr} {L : List T} (w : World) (h : TermsRow w base (.slice A L.length cap) L) (hb : ∀ t ∈ L, t.bulk ≤ 1048576) (hl : L.length ≤ 1048576) :
    Calls Tryz.prog 102 #[.slice A L.length cap, .func (.func 103) #[] #[]] w (SortPost base w A cap L) := by
  by_cases h0 : L.length = 0
  · obtain rfl : L = [] := List.eq_nil_of_length_eq_zero h0
    have hn := AnyF.slices_SortFunc_none (P := Tryz.prog) Tryz.laySo A cap (.func (.func 103) #[] #[]) w
    refine hn.mono ?_
    rintro e w' ⟨rfl, rfl⟩
    exact ⟨rfl, [], List.Perm.refl _, List.Pairwise.nil, (TermsRow.term h 0 ⟨#[]⟩ (by decide) (by decide)).at, Below.refl _ _⟩
  · obtain ⟨xs, hown, hct⟩ := h.cells
    obtain ⟨blk, cap', e, _⟩ := hown.form (by omega)
    injection e with e1 e2 e3
    subst e1; subst e3
    have hbk := h.block blk rfl
    have hsh := h.shape
    obtain ⟨_, _, e4, hc1, hc2⟩ := hsh
    injection e4 with e5 e6 e7
    subst e7
    have hx : ∀ i : Fin L.length, ∃ x : SCell w blk, x.t = L[i] ∧ ∀ r v, x.enc[r]? = some v → xs[i.1 * 3 + r]? = some v := fun i => by
      obtain ⟨u0, u1, u2, q0, q1, q2, ht⟩ := hct.2 i.1 i.2
      obtain ⟨A0, c0, ev⟩ := ht.view
      injection ev with ev
      injection ev with ev
      injection ev with g0 ev
      injection ev with g1 ev
      injection ev with g2 _
      subst g0; subst g1; subst g2
      refine ⟨⟨((L[i].kind, L[i].name, A0, L[i].kids.length, c0), L[i]), ht.keep fun b hb' _ => ⟨but_iff.2 ⟨Nat.zero_le _, (but_iff.1 hb').2⟩, rfl⟩, hb _ (List.getElem_mem _)⟩, rfl, fun r v hv => ?_⟩
      match r, hv with
      | 0, hv => injection hv with hv; subst hv; exact q0
      | 1, hv => injection hv with hv; subst hv; exact q1
      | 2, hv => injection hv with hv; subst hv; exact q2
      | r + 3, hv => simp [SCell.enc] at hv
    obtain ⟨zs, hzs⟩ : ∃ zs : List (SCell w blk), zs = List.ofFn (fun i : Fin L.length => (hx i).choose) := ⟨_, rfl⟩
    have hlen : zs.length = L.length := by rw [hzs, List.length_ofFn]
    have hz : ∀ j (hj : j < L.length), zs[j]! = (hx ⟨j, hj⟩).choose := fun j hj => by
      rw [getElem!_pos zs j (by rw [hlen]; exact hj)]
      subst hzs
      rw [List.getElem_ofFn]
    have hmap : zs.map SCell.t = L := by
      apply List.ext_getElem
      · rw [List.length_map, hlen]
      · intro j h1 h2
        rw [List.getElem_map]
        have := hz j h2
        rw [getElem!_pos zs j (by omega)] at this
        rw [this]
        exact (hx ⟨j, h2⟩).choose_spec.1
    have hds : zs.toArray.size = L.length := by simp [hlen]
    have hH : HoldsK (SCell.enc (w := w) (blk := blk)) 3 w blk 0 zs.toArray := fun j hj => by
      rw [size_flatK] at hj
      rw [get_flatK _ _ _ _ hj, Nat.zero_add]
      rw [hds] at hj
      have hq : j / 3 < L.length := by omega
      refine ⟨?_, hown.frozenAt j⟩
      rw [hown.cellAt j (by omega)]
      have hgz : zs.toArray[j / 3]! = (hx ⟨j / 3, hq⟩).choose := by
        rw [← hz (j / 3) hq, getElem!_pos zs.toArray _ (by rw [hds]; exact hq), getElem!_pos zs _ (by rw [hlen]; exact hq)]; simp
      rw [hgz]
      have hsp := (hx ⟨j / 3, hq⟩).choose_spec.2 (j % 3)
      generalize (hx ⟨j / 3, hq⟩).choose = x at hsp
      have hr : j % 3 < x.enc.length := by have : x.enc.length = 3 := rfl; omega
      have := hsp _ (List.getElem?_eq_getElem hr)
      have ej : j / 3 * 3 + j % 3 = j := by omega
      rw [ej] at this
      rw [this]
      show some _ = some (x.enc[j % 3]!)
      rw [getElem!_pos x.enc (j % 3) hr]
    have eg : ∀ args w, (callFunc 103 args).run Tryz.prog w = .ok (.enter 103 args) w := enters_of Tryz.func103 (by kernel_rfl) rfl
    have hcon := AnyQ.slices_SortFunc (P := Tryz.prog) Tryz.laySo 3 (fun w => Tryz.isAgg29 w) (fun w => Tryz.sizeOf29 w) (SCell.enc (w := w) (blk := blk)) (fun _ => rfl) (fun x v hv => by
        simp only [SCell.enc, List.mem_cons, List.not_mem_nil, or_false] at hv
        rcases hv with rfl | rfl | rfl <;> rfl) SCell.cf (scell_swo w blk) 103 #[] blk 0 cap zs.toArray w eg (scell_lays 0 _) hH hbk.2 (by rw [hds]; omega)
    rw [hds] at hcon
    refine hcon.mono ?_
    rintro e w' ⟨rfl, d', n, os, ⟨hp1, _, hp3⟩, hso, rfl⟩
    have hd' : d'.size = L.length := by rw [hp1, hds]
    have hperm : d'.toList.Perm zs := by
      rw [← hd'] at hp3
      have e1 : d'.extract 0 d'.size = d' := by simp
      have e2 : zs.toArray.extract 0 d'.size = zs.toArray := by rw [hd', ← hds]; simp
      rw [e1, e2] at hp3; exact hp3
    have hll : (d'.toList.map SCell.t).length = L.length := by simp [hd']
    refine ⟨rfl, d'.toList.map SCell.t, by rw [← hmap]; exact hperm.map _, ?_, ?_, sortWorldK_below _ _ _ _ _ _ _ _ hbk.1 hbk.2⟩
    · rw [List.pairwise_map, List.pairwise_iff_getElem]
      intro i j hi hj hij
      have h2 := hso i j (Nat.zero_le _) hij (by simpa [hd'] using hj)
      unfold ltOf SCell.cf at h2
      rw [decide_eq_false_iff_not] at h2
      rw [getElem!_pos d' _ (by simpa using hj), getElem!_pos d' _ (by simpa using hi)] at h2
      simpa using h2
    · have hH' := holdsK_sortWorldK_c (SCell.enc (w := w) (blk := blk)) 3 w blk 0 zs.toArray d' n os hH hbk.2 hp1
      have hcell : ∀ i, i < L.length → ∀ r, r < 3 → (sortWorldK (SCell.enc (w := w) (blk := blk)) 3 w blk 0 n d' os).cell? ⟨blk, 0 + i * 3 + r, none⟩ = some (d'[i]!.enc[r]!) := fun i hi r hr => by
        have := (hH' (i * 3 + r) (by rw [size_flatK, hd']; omega)).1
        rw [get_flatK _ _ _ _ (by rw [hd']; omega)] at this
        have e1 : (i * 3 + r) / 3 = i := by omega
        have e2 : (i * 3 + r) % 3 = r := by omega
        rw [e1, e2, id] at this
        rw [Nat.add_assoc]; exact this
      have hkn : TermAt (sortWorldK (SCell.enc (w := w) (blk := blk)) 3 w blk 0 n d' os) (.agg #[.int .i64 0, .string ⟨#[]⟩, .slice (some ⟨blk, 0, none⟩) (d'.toList.map SCell.t).length cap]) (.mk 0 ⟨#[]⟩ (d'.toList.map SCell.t)) := by
        refine .mk 0 ⟨#[]⟩ _ cap _ (fun i => (d'[i]!.enc[0]!, d'[i]!.enc[1]!, d'[i]!.enc[2]!)) (by decide) (by decide) (by rw [hll]; exact hc1) hc2 (.inr ⟨blk, 0, rfl, fun i hi => ?_⟩) (fun i hi => ?_)
        · rw [hll] at hi
          exact ⟨hcell i hi 0 (by omega), hcell i hi 1 (by omega), hcell i hi 2 (by omega)⟩
        · rw [hll] at hi
          have e1 : (d'.toList.map SCell.t)[i] = d'[i]!.t := by rw [List.getElem_map, getElem!_pos d' i (by omega)]; rfl
          rw [e1]
          obtain ⟨⟨⟨k, s, A, n', c⟩, t⟩, ht, _⟩ := d'[i]!
          exact (ht.keep fun b hb' hlt => ⟨rfl, sortWorldK_block _ _ _ _ _ _ _ _ b hlt (fun e => (but_iff.1 hb').2 (by rw [e]))⟩).at
      rw [hll] at hkn
      unfold KnownAt
      rw [hll]; exact hkn
end Go.Proofs.YtihbmgkbipeakaaGreat

namespace Go.Proofs.YtihbmgkbipeakaaGreat
open Go.RowKit

/-- The terms of the first steps that were taken apart. -/
def ptsT (W : List Stp) (j : Nat) : List T := ((W.take j).filter Stp.part).map Stp.t
theorem pts_succ (W : List Stp) (j : Nat) (h : j < W.length) : ptsT W (j + 1) = if W[j].part = true then ptsT W j ++ [W[j].t] else ptsT W j := by
  unfold ptsT
  rw [List.take_succ_eq_append_getElem h, List.filter_append, List.map_append]
  by_cases hu : W[j].part = true
  · rw [if_pos hu]; simp [hu]
  · rw [if_neg hu]; simp [hu]
theorem pts_len (W : List Stp) (j : Nat) : (ptsT W j).length ≤ W.length := by
  unfold ptsT
  rw [List.length_map]
  exact Nat.le_trans (List.length_filter_le _ _) (by rw [List.length_take]; omega)

set_option maxRecDepth 100000 in
set_option maxHeartbeats 8000000 in
theorem oparts {B g M : Nat} {vs vp : Value} {W : List Stp} (w : World) (h : WebAt B w g M vs vp W) (hb : ∀ s ∈ W, s.t.bulk ≤ 1048576) :
    Calls Tryz.prog 55 #[.agg #[.pointer (some ⟨g, 0, none⟩)]] w fun e w' => ∃ A cap L, e = .returned (.slice A L.length cap) ∧ L.Perm (ptsT W W.length) ∧ L.Pairwise (fun a b => ¬ T.cmp b a < 0) ∧ KnownAt w' A cap L ∧ Below w.heap.size w w' := by
  obtain ⟨i0, hi0, hz0, hz1, hz2⟩ := info_parts Tryz.infoT
  have hb1 := below_alloc1 w (.cells #[.pointer (some ⟨g, 0, none⟩)] 84)
  have hka : (w.alloc (.cells #[.pointer (some ⟨g, 0, none⟩)] 84)).cell? ⟨w.heap.size, 0, none⟩ = some (.pointer (some ⟨g, 0, none⟩)) := by
    have := heap_alloc_new w (.cells #[.pointer (some ⟨g, 0, none⟩)] 84)
    unfold World.cell?; rw [this]; rfl
  have HW := Lib.hid (h.later hb1); have HBW := Lib.hid hb1; have HBK := Lib.hid hb
  have hsz := h.size
  obtain ⟨A7, c7, A8, c8, rfl, rfl⟩ := h.shapes
  clear h hb hb1
  go_enter Tryz.func55, Tryz.ntmps55
  go_upto_region 1 with fail
  generalize w.alloc (.cells #[.pointer (some ⟨g, 0, none⟩)] 84) = w1 at hka HW HBW ⊢
  have HKA := Lib.hid hka
  obtain ⟨d0, d1, d2, _, _⟩ := HW.out.cells
  have hzw := HBW.out.size
  have HST := Lib.hid (show TermsRow w1 w1.heap.size (.slice none 0 0) (ptsT W 0) ∧ Below w1.heap.size w1 w1 from ⟨TermsRow.nil _ _, Below.refl _ _⟩)
  go_upto_region 3 with fail
  clear hka d0 d1 d2
  go_loopw [12, 3] (fun i l wr => ∃ j : Nat, j ≤ W.length ∧ i = .int .i64 j ∧ TermsRow wr w1.heap.size l (ptsT W j) ∧ Below w1.heap.size w1 wr) (fun i _ _ => W.length - (intOf i).toNat)
  case atStart => exact ⟨0, Nat.zero_le _, rfl, HST.out.1, HST.out.2⟩
  case round =>
    obtain ⟨j, hj, rfl, hrow, hbw⟩ := hrel
    by_cases hlt : j < W.length
    · have HWr := HW.out.later hbw
      obtain ⟨gs0, cp, A0, cap0, F0, fc0, hvs, s0, s1, s2, s3, s4, hT, hN⟩ := HWr.step_row hlt
      injection hvs with hv1 _ hv3
      subst hv1; subst hv3
      have hi1 : (0 : Int) ≤ (j : Int) ∧ (j : Int) < (W.length : Int) := by omega
      obtain ⟨hi1, hi2⟩ := hi1
      have hi3 : (j : Int) ≤ 1048576 := by omega
      have HSC := Lib.hid (pts_succ W j hlt)
      have hbk2 := HBK.out (W[j]'(hlt)) (List.getElem_mem hlt)
      have HT := Lib.hid hT.at
      have HLT := Lib.hid hlt
      obtain ⟨gp, cq, hvp, p0, _, _⟩ := HWr.part_row hlt
      injection hvp with hv1 _ hv3
      subst hv1; subst hv3
      generalize W[j]'(hlt) = st at s0 s1 s2 s3 s4 HT HSC hbk2 p0
      obtain ⟨t, how, frm, pt⟩ := st
      dsimp only at s0 s1 s2 s3 s4 HT HSC hbk2 p0
      have hwa := below_alloc1 wr (.cells #[.int .i64 t.kind, .string t.name, .slice A0 t.kids.length cap0, .int .i64 (how : Int), .slice F0 frm.length fc0] 31)
      have bk := Box5.new wr (.int .i64 t.kind) (.string t.name) (.slice A0 t.kids.length cap0) (.int .i64 (how : Int)) (.slice F0 frm.length fc0)
      have HROW := Lib.hid (hrow.later hwa); have HBX := Lib.hid (hbw.trans (hwa.mono hbw.size)); have HTa := Lib.hid (HT.out.later hwa); have hpa := cell_later hwa p0
      have HWa := HW.out.later (hbw.trans (hwa.mono hbw.size))
      obtain ⟨d0, d1, d2, _, _⟩ := HWa.cells
      have hk2 := cell_later (hbw.trans (hwa.mono hbw.size)) HKA.out
      have HCP := Lib.hid (fun v' W' hW => ocopy (t.bulk + 1) t v' W' (by omega) hW hbk2)
      clear hT hN hrow hbw HWr hlt hbk2 HT
      go_upto_region 5 with fail
      clear s0 s1 s2 s3 s4 hwa p0 HWa
      generalize wr.alloc (.cells #[.int .i64 t.kind, .string t.name, .slice A0 t.kids.length cap0, .int .i64 (how : Int), .slice F0 frm.length fc0] 31) = wa at bk HROW HBX HTa hpa d0 d1 d2 hk2 ⊢
      obtain ⟨k0, k1, k2, _, _⟩ := bk.cells
      clear bk
      cases pt with
      | false =>
        have HE := Lib.hid (show ptsT W (j + 1) = ptsT W j by rw [HSC.out]; rfl)
        go_wp2_with fail
        go_roundw
        case rel => exact ⟨j + 1, HLT.out, by go_num, by rw [HE.out]; exact HROW.out, HBX.out⟩
        case measure => have := HLT.out; simp [intOf]; omega
      | true =>
        have HE := Lib.hid (show ptsT W (j + 1) = ptsT W j ++ [t] by rw [HSC.out]; rfl)
        obtain ⟨xs, hown, hct⟩ := HROW.out.cells
        have HBLK := Lib.hid HROW.out.block
        have HOWN := Lib.hid hown; have HCT := Lib.hid hct
        have hlen := pts_len W j
        generalize ptsT W j = L0 at HOWN HCT HBLK hlen HE
        obtain ⟨A9, c9, rfl⟩ := own_shapeU HOWN.out
        clear hown hct HSC HROW
        go_wp2_with fail
        refine (HCP.out _ _ HTa.out).mono ?_; rintro e w3 ⟨A3, C3, rfl, hti, hb3⟩
        have hwb := below_alloc1 w3 (.cells #[.int .i64 t.kind, .string t.name, .slice A3 t.kids.length C3] 29)
        have HOWN3 := Lib.hid (own_later (own_later HOWN.out hb3) hwb)
        have HONE := Lib.hid hti.one
        have hz3 : w1.heap.size ≤ (w3.alloc (.cells #[.int .i64 t.kind, .string t.name, .slice A3 t.kids.length C3] 29)).heap.size := by rw [size_alloc1]; have := hb3.size; have := HBX.out.size; omega
        have HPUSH := Lib.hid (fun w8 A8 c8 hown8 hg8 hat8 => TermsRow.push (base := w1.heap.size) (w3 := w8) (A8 := A8) (c8 := c8) (o := .cells #[.int .i64 t.kind, .string t.name, .slice A3 t.kids.length C3] 29 (0, 0)) HCT.out (fun b e => (HBLK.out b e).2) HBX.out.size hb3 hti hown8 hg8 hat8)
        have HB3 := Lib.hid ((HBX.out.trans (hb3.mono HBX.out.size)).trans (hwb.mono (Nat.le_trans HBX.out.size hb3.size)))
        clear hb3 hti hwb k0 k1 k2 hpa d0 d1 d2 hk2
        go_wp2_with (at_builtin; refine wpList_append_src _ rfl _ _ 27 rfl w1.heap.size 29 i0 _ 3 48 Tryz.underlying27 hi0 hz0 hz1 hz2 rfl (by omega) _ _ _ rfl HOWN3.out _ 1 1 [.int .i64 t.kind, .string t.name, .slice A3 t.kids.length C3] rfl (Src.newsU _ _ _ 3 rfl) HONE.out (by unfold maxLen; omega) (by omega) hz3 ?_; intro A8 c8 w8 hown8 hg8 hat8; have HR8 := Lib.hid (HPUSH.out _ _ _ hown8 hg8 hat8); have HB8 := Lib.hid (HB3.out.grown hg8 HB3.out.size (fun k hk => (HBLK.out k hk).1)); clear hown8 hg8 hat8)
        go_roundw
        case rel => exact ⟨j + 1, HLT.out, by go_num, by rw [HE.out]; exact HR8.out, HB8.out⟩
        case measure => have := HLT.out; simp [intOf]; omega
    · obtain rfl : j = W.length := by omega
      have HROW := Lib.hid hrow; have HBX := Lib.hid hbw
      have HPB := Lib.hid (show ∀ t ∈ ptsT W W.length, t.bulk ≤ 1048576 from fun t ht => by
        unfold ptsT at ht
        obtain ⟨s, hs, rfl⟩ := List.mem_map.1 ht
        exact HBK.out s (List.mem_of_mem_take (List.mem_filter.1 hs).1))
      have hpl := pts_len W W.length
      obtain ⟨L0, hL0⟩ : ∃ L0, ptsT W W.length = L0 := ⟨_, rfl⟩
      rw [hL0] at HROW HPB hpl
      have HL0 := Lib.hid hL0
      clear hL0
      obtain ⟨A9, c9, hl9, _, _⟩ := HROW.out.shape
      subst hl9
      clear hrow hbw hlt hj
      go_upto_region 8 with fail
      go_wp2_with fail
      refine (osort _ HROW.out HPB.out (by omega)).mono ?_; rintro e w5 ⟨rfl, L', hp, hs, hkn, hb5⟩
      have HP := Lib.hid hp; have HS := Lib.hid hs; have HKN := Lib.hid hkn
      have HB5 := Lib.hid (HBW.out.trans ((HBX.out.trans hb5).mono hzw))
      have HLE := Lib.hid hp.length_eq
      clear hp hs hkn hb5
      go_wp2_with fail
      go_ret
      exact ⟨A9, c9, L', by rw [HLE.out]; rfl, by rw [HL0.out]; exact HP.out, HS.out, HKN.out, HB5.out⟩
theorem pts_mem (W : List Stp) (x : T) : x ∈ ptsT W W.length ↔ Wb.Part W x := by
  unfold ptsT
  rw [List.take_length, List.mem_map]
  constructor
  · rintro ⟨s, hs, rfl⟩
    obtain ⟨h1, h2⟩ := List.mem_filter.1 hs
    exact ⟨s, h1, h2, rfl⟩
  · rintro ⟨s, h1, h2, rfl⟩
    exact ⟨s, List.mem_filter.2 ⟨h1, h2⟩, rfl⟩
theorem pts_nodup {U : List T} {W : List Stp} (h : Inv U W) : (ptsT W W.length).Nodup := by
  unfold ptsT
  rw [List.take_length]
  have h1 : W.Pairwise fun a b => a.t ≠ b.t := List.Pairwise.of_map (S := fun a b => a ≠ b) (fun s => s.t.key) (fun a b hab e => hab (by rw [e])) h.apart
  exact List.pairwise_map.2 (List.Pairwise.sublist List.filter_sublist h1)
/-- What Close gives: the terms that are taken apart, in ascending order. -/
def CloseIs (K L : List T) : Prop := (∀ x, x ∈ L ↔ An (· ∈ K) x) ∧ (L.Pairwise fun a b => 0 ≤ T.cmp b a) ∧ L.Nodup

set_option maxRecDepth 100000 in
set_option maxHeartbeats 4000000 in
theorem oclose {U : List T} (hU : Uni U) (hbU : ∀ t ∈ U, t.bulk ≤ 1048576) (L : List T) (A : Option Addr) (cap : Nat) (w : World) (h : KnownAt w A cap L) (hb : ∀ t ∈ L, t.bulk ≤ 1048576) (hK : ∀ t ∈ cnt L, t ∈ U) :
    Calls Tryz.prog 23 #[.slice A L.length cap] w fun e w' => ∃ A' cap' L', e = .returned (.slice A' L'.length cap') ∧ CloseIs (cnt L) L' ∧ L'.length ≤ U.length ∧ KnownAt w' A' cap' L' ∧ Below w.heap.size w w' := by
  have HL := Lib.hid (olearn hU hbU L A cap w h hb hK)
  have hfp := Wb.fill_part hU hK
  have HFP := Lib.hid hfp
  have HP := Lib.hid (fun B g M vs vp W' (hW : WebAt B W' g M vs vp (Wb.fill U.length (cnt L))) => oparts W' hW (fun s hs => hbU _ (hfp.1.mem s hs)))
  generalize Wb.fill U.length (cnt L) = W at HL HFP HP
  clear hfp h hb hK
  go_enter Tryz.func23, Tryz.ntmps23
  go_wp2_with fail
  refine HL.out.mono ?_; rintro e w4 ⟨g, rfl, hl4, hb4⟩
  obtain ⟨B, M, vs, vp, hB4, hw4⟩ := hl4
  have HW4 := Lib.hid hw4; have HB4 := Lib.hid hb4
  clear hw4 hb4
  go_wp2_with fail
  refine (HP.out B g M vs vp _ HW4.out).mono ?_; rintro e w5 ⟨A', cap', L', rfl, hp, hs, hkn, hb5⟩
  have HB5 := Lib.hid (HB4.out.trans (hb5.mono HB4.out.size)); have HKN := Lib.hid hkn; have HPM := Lib.hid hp; have HSO := Lib.hid hs
  clear hp hs hkn hb5
  go_wp2_with fail
  go_ret
  exact ⟨A', cap', L', rfl, ⟨fun x => (HPM.out.mem_iff).trans ((pts_mem W x).trans (HFP.out.2.2 x)), HSO.out.imp (fun h => by omega), HPM.out.nodup_iff.2 (pts_nodup HFP.out.1)⟩, by rw [HPM.out.length_eq]; exact Nat.le_trans (pts_len W _) HFP.out.1.len, HKN.out, HB5.out⟩
end Go.Proofs.YtihbmgkbipeakaaGreat
