/- Several texts in one: WebY, WebMb, TermCmpD, WebV, WebSo. -/
import Derived.Test.YtihbmgkbipeakaaGreatWebG16
import Derived.Test.YtihbmgkbipeakaaGreatWebG15
import Derived.Test.YtihbmgkbipeakaaGreatWebG1
import Derived.Deep.RegionHeld3
import Derived.Sort.Grow
import Derived.Test.YtihbmgkbipeakaaGreatShelfH
import Derived.Shelf.SlicesE.IndexFunc
import Derived.Shelf.SlicesQ.IndexFunc
import Derived.Test.YtihbmgkbipeakaaGreatWebG3
import Derived.Shelf.SlSortCmp.WholeK
import Derived.Shelf.SlSortCmp.NoneTotal
namespace Go.Proofs.YtihbmgkbipeakaaGreat
open Go.RowKit Go.Maps

theorem IntsIn.all {S : Nat → Bool} {w : World} {A : Option Addr} {ns : List Int} (h : IntsIn S w A ns) : IntsIn (fun _ => true) w A ns := h.keep fun _ _ _ => ⟨rfl, rfl⟩
/-- A deduction that can be read. -/
def DedAt (w : World) (A : Option Addr) (L : List Rsn) : Prop := L.length = 0 ∨ ∃ b off, A = some ⟨b, off, none⟩ ∧ ∀ i (h : i < L.length), ∃ A' c' F fc, w.cell? ⟨b, off + i * 5, none⟩ = some (.int .i64 L[i].t.kind) ∧ w.cell? ⟨b, off + i * 5 + 1, none⟩ = some (.string L[i].t.name) ∧
  w.cell? ⟨b, off + i * 5 + 2, none⟩ = some (.slice A' L[i].t.kids.length c') ∧ w.cell? ⟨b, off + i * 5 + 3, none⟩ = some (.int .i64 L[i].how) ∧ w.cell? ⟨b, off + i * 5 + 4, none⟩ = some (.slice F L[i].frm.length fc) ∧
  TermAt w (.agg #[.int .i64 L[i].t.kind, .string L[i].t.name, .slice A' L[i].t.kids.length c']) L[i].t ∧ IntsIn (fun _ => true) w F L[i].frm
theorem DedAt.later {w w' : World} {A : Option Addr} {L : List Rsn} (h : DedAt w A L) (hb : Below w.heap.size w w') : DedAt w' A L := by
  rcases h with h | ⟨b, off, e, h⟩
  · exact .inl h
  · refine .inr ⟨b, off, e, fun i hi => ?_⟩
    obtain ⟨A', c', F, fc, c0, c1, c2, c3, c4, ht, hf⟩ := h i hi
    exact ⟨A', c', F, fc, cell_later hb c0, cell_later hb c1, cell_later hb c2, cell_later hb c3, cell_later hb c4, ht.later hb, hf.keep fun b _ hl => ⟨rfl, hb.block b hl⟩⟩
theorem OutAt.ded {H M : Nat} {X : Nat → Bool} {w : World} {ov : Value} {out : List Rsn} (h : OutAt H X M w ov out) : ∃ A c, ov = .slice A out.length c ∧ DedAt w A out := by
  obtain ⟨css, h1, h2⟩ := h
  rcases Nat.eq_zero_or_pos out.length with h0 | h0
  · obtain ⟨A, c, e⟩ := own_shape h2
    exact ⟨A, c, e, .inl h0⟩
  · obtain ⟨gb, cp, e, _⟩ := h2.form h0
    subst e
    refine ⟨_, cp, rfl, .inr ⟨gb, 0, rfl, fun i hi => ?_⟩⟩
    have hi' : i < css.length := by rw [h1.1]; exact hi
    obtain ⟨A, cap, F, fc, e, ht, hf⟩ := h1.2 i hi' hi
    have hlen : ∀ cs ∈ css, cs.length = 5 := fun cs hc => by
      obtain ⟨j, hj, rfl⟩ := List.getElem_of_mem hc
      exact (h1.2 j hj (by rw [← h1.1]; exact hj)).len
    have hc : ∀ r, r < 5 → w.cell? ⟨gb, 0 + i * 5 + r, none⟩ = (css[i])[r]? := fun r hr => by
      rw [Nat.zero_add, h2.cellAt (i * 5 + r) (by omega)]
      exact flat_at css hlen i hi' r hr
    rw [e] at hc
    exact ⟨A, cap, F, fc, hc 0 (by omega), hc 1 (by omega), hc 2 (by omega), hc 3 (by omega), hc 4 (by omega), ht.at, hf.in.all⟩
/-- The deduction of a term, if there is one. -/
def derV (W : List Stp) (t : T) : Option (List Rsn) := if t.use = true then (Wb.bld W t).2.map fun i => (Wb.nd (i + 1) (Wb.bld W t).1 [] [] i).1.1 else none
def DerTo (w : World) (r : Option (List Rsn)) (e : Ending) (w' : World) : Prop := Below w.heap.size w w' ∧ match r with
  | none => e = .returned (.tuple #[.slice none 0 0, .bool false])
  | some L => ∃ A c, e = .returned (.tuple #[.slice A L.length c, .bool true]) ∧ DedAt w' A L
/-- The same, with where the deduction lies: in blocks of its own. -/
def DerTo2 (w : World) (r : Option (List Rsn)) (e : Ending) (w' : World) : Prop := Below w.heap.size w w' ∧ match r with
  | none => e = .returned (.tuple #[.slice none 0 0, .bool false])
  | some L => ∃ A c H M, e = .returned (.tuple #[.slice A L.length c, .bool true]) ∧ w.heap.size ≤ H ∧ OutAt H (fun _ => false) M w' (.slice A L.length c) L
theorem DerTo2.to {w : World} {r : Option (List Rsn)} {e : Ending} {w' : World} (h : DerTo2 w r e w') : DerTo w r e w' := by
  obtain ⟨h1, h2⟩ := h
  refine ⟨h1, ?_⟩
  cases r with
  | none => exact h2
  | some L =>
    obtain ⟨A, c, H, M, e1, _, h3⟩ := h2
    obtain ⟨A', c', e2, h4⟩ := h3.ded
    injection e2 with e3 e4 e5
    subst e3
    exact ⟨A, c, e1, h4⟩
theorem der_f {W : List Stp} {t : T} (h : t.use = false) : derV W t = none := by unfold derV; rw [h]; rfl
theorem der_n {W : List Stp} {t : T} (h : (Wb.bld W t).2 = none) : derV W t = none := by unfold derV; rw [h]; split <;> rfl
theorem der_s {W : List Stp} {t : T} {i : Nat} (hu : t.use = true) (h : (Wb.bld W t).2 = some i) : derV W t = some (Wb.nd (i + 1) (Wb.bld W t).1 [] [] i).1.1 := by unfold derV; rw [if_pos hu, h]; rfl

set_option maxRecDepth 100000 in
set_option maxHeartbeats 4000000 in
theorem oderive2 {U : List T} (hU : Uni U) (hbU : ∀ t ∈ U, t.bulk ≤ 1048576) (L : List T) (A : Option Addr) (cap : Nat) (t : T) (v : Value) (w : World) (h : KnownAt w A cap L) (hb : ∀ t ∈ L, t.bulk ≤ 1048576) (hK : ∀ t ∈ cnt L, t ∈ U) (hT : TermAt w v t) (hbk : t.bulk ≤ 1048576) (ht : t.use = true → t ∈ U) :
    Calls Tryz.prog 21 #[.slice A L.length cap, v] w (DerTo2 w (derV (Wb.fill U.length (cnt L)) t)) := by
  have hv : ∃ A0 cap0, v = .agg #[.int .i64 t.kind, .string t.name, .slice A0 t.kids.length cap0] := by obtain ⟨A0, cap0, _, e, _⟩ := TermAt.inv hT; exact ⟨A0, cap0, e⟩
  obtain ⟨A0, cap0, rfl⟩ := hv
  have hw := below_alloc1 w (.cells #[.int .i64 t.kind, .string t.name, .slice A0 t.kids.length cap0] 29)
  have bx := Box.new w (.int .i64 t.kind) (.string t.name) (.slice A0 t.kids.length cap0)
  have HFI := Lib.hid (fun W' (hW' : KnownAt W' A cap L) => ofill hU hbU L A cap W' hW' hb hK)
  have HI := Lib.hid (fill_inv hU hK U.length); have HO := Lib.hid (Wb.fill_ord hU hK U.length)
  have HKN := Lib.hid (h.later hw); have HT := Lib.hid (hT.later hw); have HB1 := Lib.hid hw
  have HUS := Lib.hid (fun v' W' hW => ousable t v' W' hW hbk); have HCP := Lib.hid (fun v' W' hW => ocopy (t.bulk + 1) t v' W' (by omega) hW hbk)
  generalize Wb.fill U.length (cnt L) = W at HFI HI HO ⊢
  obtain ⟨R, hR⟩ : ∃ R, derV W t = R := ⟨_, rfl⟩
  have hdf := der_f (W := W) (t := t); have hdn := der_n (W := W) (t := t); have hds := fun i => der_s (W := W) (t := t) (i := i)
  rw [hR] at hdf hdn hds ⊢
  have HDF := Lib.hid hdf; have HDN := Lib.hid hdn; have HDS := Lib.hid hds
  have HBU := Lib.hid (fun B g M vs vp v' W' (hu : t.use = true) hW hT' => obuild (B := B) hU hbU (t.bulk + 1) t (by omega) (ht hu) v' W' g M vs vp W HI.out hW hT')
  have HIB := Lib.hid (fun (hu : t.use = true) => (show Inv U (Wb.bld W t).1 ∧ Wb.Ord (Wb.bld W t).1 ∧ ∀ i, (Wb.bld W t).2 = some i → i < (Wb.bld W t).1.length from ⟨(Wb.bld_inv hU (ht hu) HI.out).1, Wb.bld_ord hU (ht hu) HI.out HO.out, (Wb.bld_inv hU (ht hu) HI.out).2.2⟩))
  clear h hb hK hT hw hbk ht hdf hdn hds hR
  obtain ⟨k, hk⟩ : ∃ k, t.kind = k := ⟨_, rfl⟩
  obtain ⟨nm, hnm⟩ : ∃ nm, t.name = nm := ⟨_, rfl⟩
  obtain ⟨kn, hkn⟩ : ∃ kn, t.kids.length = kn := ⟨_, rfl⟩
  rw [hk, hnm, hkn] at bx HKN HT HB1 ⊢
  have HV := Lib.hid (show t.kind = k ∧ t.name = nm ∧ t.kids.length = kn from ⟨hk, hnm, hkn⟩)
  clear hk hnm hkn
  go_enter Tryz.func21, Tryz.ntmps21
  go_upto_region 1 with fail
  generalize w.alloc (.cells #[.int .i64 k, .string nm, .slice A0 kn cap0] 29) = w1 at bx HKN HT HB1 ⊢
  obtain ⟨x0, x1, x2⟩ := bx.cells
  have BX := Lib.hid bx
  clear bx
  go_wp2_with fail
  refine (HUS.out _ _ HT.out).mono ?_; rintro e w2 ⟨rfl, hb2⟩
  have HB2 := Lib.hid (HB1.out.trans (hb2.mono HB1.out.size)); have HT2 := Lib.hid (HT.out.later hb2); have BX2 := Lib.hid (BX.out.later hb2); have HK2 := Lib.hid (HKN.out.later hb2)
  clear hb2 x0 x1 x2
  cases hu : t.use with
  | false =>
    have HE := Lib.hid (HDF.out hu)
    clear hu
    go_wp2_with fail
    go_ret2
    rw [HE.out]
    exact ⟨HB2.out, rfl⟩
  | true =>
    have HBUU := Lib.hid (fun B g M vs vp v' W' => HBU.out B g M vs vp v' W' hu); have HIBU := Lib.hid (HIB.out hu); have HDSU := Lib.hid (fun i => HDS.out i hu)
    clear hu
    go_wp2_with fail
    refine (HFI.out _ HK2.out).mono ?_; rintro e w3 ⟨g, M, vs, vp, rfl, hw3, hb3⟩
    have HW3 := Lib.hid hw3; have HT3 := Lib.hid (HT2.out.later hb3); have HB3 := Lib.hid (HB2.out.trans (hb3.mono HB2.out.size))
    obtain ⟨y0, y1, y2⟩ := (BX2.out.later hb3).cells
    have HLE := Lib.hid HB2.out.size
    clear hw3 hb3
    go_wp2_with fail
    refine (HCP.out _ _ HT3.out).mono ?_; rintro e w4 ⟨A4, C4, rfl, hti, hb4⟩
    have HW4 := Lib.hid (HW3.out.later hb4); have HB4 := Lib.hid (HB3.out.trans (hb4.mono HB3.out.size))
    have hti4 : TermIn (nr g M vs vp) w4 _ t := hti.keep (S' := nr g M vs vp) (fun b hb hl => ⟨nr_new HW3.out (of_decide_eq_true hb), rfl⟩)
    have hbl := HBUU.out _ g M vs vp _ w4 HW4.out hti4
    change Calls _ _ _ _ (BTo _ g M _ vs vp (Wb.bld W t)) at hbl
    generalize Wb.bld W t = q at hbl HIBU HDSU HDN
    have HBLQ := Lib.hid hbl
    clear hti hb4 hti4 hbl y0 y1 y2
    go_wp2_with fail
    refine HBLQ.out.mono ?_; rintro e w5 ⟨he, vs5, vp5, hw5, hf5⟩
    have HW5 := Lib.hid hw5; have HB5 := Lib.hid (HB4.out.trans (hf5.below.mono HLE.out))
    clear hw5 hf5
    cases hq : q.2 with
    | none =>
      have he2 : e = .returned (.int .i64 (-1)) := by rw [he, hq]; rfl
      clear he; subst he2
      have HE := Lib.hid (HDN.out hq)
      clear hq
      go_wp2_with fail
      go_ret2
      rw [HE.out]
      exact ⟨HB5.out, rfl⟩
    | some p =>
      have he2 : e = .returned (.int .i64 (p : Int)) := by rw [he, hq]; rfl
      clear he; subst he2
      have hneg : ¬ ((p : Int) < 0) := by omega
      have HE := Lib.hid (HDSU.out p hq)
      have HPL := Lib.hid (HIBU.out.2.2 p hq)
      clear hq
      have hb6 := below_alloc1 w5 (.map #[] 0)
      have hmk : Sem.run Tryz.prog (Instr.makeMap 89 none) w5 = .ok (.map (some w5.heap.size)) (w5.alloc (.map #[] 0)) := rfl
      have HND := Lib.hid (oneeded HW5.out HIBU.out.2.1 (fun s hs => hbU _ (HIBU.out.1.mem s hs)) (p + 1) p (Nat.lt_succ_self _) HPL.out (w5.alloc (.map #[] 0)) (.slice none 0 0) w5.heap.size [] [] (fun _ => false) hb6 (fun b e => by cases e) (Wb.NdI.nil _)
        ⟨[], ⟨rfl, fun i h => absurd h (Nat.not_lt_zero _)⟩, own_nil _ _ _ _⟩ ⟨Nat.le_refl _, .map [], 0, World.ownsMap_made w5 Tryz.prog 3 _, Nat.le_refl _, fun i => ⟨rfl, fun k h => by cases h⟩⟩)
      have HB6 := Lib.hid (HB5.out.trans (hb6.mono HB5.out.size))
      have HLE6 := Lib.hid HB5.out.size
      clear hb6
      go_wp2_with fail
      refine HND.out.mono ?_; rintro e w7 ⟨ov', rfl, ho, _, hb7, _⟩
      obtain ⟨A7, c7, rfl, hd⟩ := ho.ded
      have HD := Lib.hid ho; have HB7 := Lib.hid (HB6.out.trans (hb7.mono HLE6.out))
      clear ho hd hb7 hmk
      go_wp2_with fail
      go_ret2
      rw [HE.out]
      exact ⟨HB7.out, A7, c7, _, _, rfl, HLE6.out, HD.out⟩
theorem oderive {U : List T} (hU : Uni U) (hbU : ∀ t ∈ U, t.bulk ≤ 1048576) (L : List T) (A : Option Addr) (cap : Nat) (t : T) (v : Value) (w : World) (h : KnownAt w A cap L) (hb : ∀ t ∈ L, t.bulk ≤ 1048576) (hK : ∀ t ∈ cnt L, t ∈ U) (hT : TermAt w v t) (hbk : t.bulk ≤ 1048576) (ht : t.use = true → t ∈ U) :
    Calls Tryz.prog 21 #[.slice A L.length cap, v] w (DerTo w (derV (Wb.fill U.length (cnt L)) t)) :=
  (oderive2 hU hbU L A cap t v w h hb hK hT hbk ht).mono fun _ _ h => h.to
end Go.Proofs.YtihbmgkbipeakaaGreat

namespace Go.Proofs.YtihbmgkbipeakaaGreat

/-- The term that a place of a list holds. -/
def tO (out : List Rsn) (j : Nat) : T := (out[j]?.map Rsn.t).getD T.nil_
theorem tO_at {out : List Rsn} {j : Nat} (h : j < out.length) : tO out j = out[j].t := by unfold tO; rw [List.getElem?_eq_getElem h]; rfl
theorem tO_pre {out out' : List Rsn} (h : out <+: out') {j : Nat} (hj : j < out.length) : tO out' j = tO out j := by
  obtain ⟨r, rfl⟩ := h
  rw [tO_at hj, tO_at (by simp; omega), List.getElem_append_left hj]
/-- Places that go over into others. -/
inductive Sent (g : Nat → Nat → Prop) : List Nat → List Nat → Prop
  | nil : Sent g [] []
  | cons {a b : Nat} {l m : List Nat} (h : g a b) (r : Sent g l m) : Sent g (a :: l) (b :: m)
theorem Sent.imp {g g' : Nat → Nat → Prop} : ∀ {l m : List Nat}, Sent g l m → (∀ a b, g a b → g' a b) → Sent g' l m
  | _, _, .nil, _ => .nil
  | _, _, .cons h r, hi => .cons (hi _ _ h) (r.imp hi)
theorem Sent.snd {g : Nat → Nat → Prop} {p : Nat → Prop} : ∀ {l m : List Nat}, Sent g l m → (∀ a b, g a b → p b) → ∀ x ∈ m, p x
  | _, _, .nil, _, x, hx => by cases hx
  | _, _, .cons h r, hi, x, hx => by
    rcases List.mem_cons.1 hx with rfl | hx
    · exact hi _ _ h
    · exact r.snd hi x hx
theorem Rt.sent {K : T → Prop} {a a' : Nat → T} {t : T} {how : Nat} {js ms : List Nat} (h : Rt K a t how js) (hs : Sent (fun j m => a' m = a j) js ms) : Rt K a' t how ms := by
  cases h with
  | known h => cases hs; exact .known h
  | first h3 h => cases hs with | cons e r => cases r; exact .first (by rw [e]; exact h3) (by rw [e]; exact h)
  | second h3 h => cases hs with | cons e r => cases r; exact .second (by rw [e]; exact h3) (by rw [e]; exact h)
  | opened h5 hk h => cases hs with | cons e r => cases r with | cons e2 r => cases r; exact .opened (by rw [e]; exact h5) (by rw [e, e2]; exact hk) (by rw [e]; exact h)
  | signed h6 h => cases hs with | cons e r => cases r; exact .signed (by rw [e]; exact h6) (by rw [e]; exact h)
  | pair h3 h0 h1 => cases hs with | cons e r => cases r with | cons e2 r => cases r; exact .pair h3 (by rw [e]; exact h0) (by rw [e2]; exact h1)
  | hash h4 h0 => cases hs with | cons e r => cases r; exact .hash h4 (by rw [e]; exact h0)
  | seal_ h3 h0 h1 => cases hs with | cons e r => cases r with | cons e2 r => cases r; exact .seal_ h3 (by rw [e]; exact h0) (by rw [e2]; exact h1)
  | sign h3 h0 h1 => cases hs with | cons e r => cases r with | cons e2 r => cases r; exact .sign h3 (by rw [e]; exact h0) (by rw [e2]; exact h1)
  | power h7 h1 hi hp hn => cases hs with | cons e r => cases r with | cons e2 r => cases r; exact .power h7 h1 hi (by rw [e]; exact hp) (by rw [e2]; exact hn)
  | raise h7 h1 hn => cases hs with | cons e r => cases r; exact .raise h7 h1 (by rw [e]; exact hn)
namespace Wb
/-- A step of the list is right. -/
def RtO (K : T → Prop) (out : List Rsn) (s : Rsn) (k : Nat) : Prop := ∃ (how : Nat) (frm : List Nat), s.how = (how : Int) ∧ s.frm = frm.map (fun (n : Nat) => (n : Int)) ∧ (∀ j ∈ frm, j < k) ∧ Rt K (tO out) s.t how frm
theorem RtO.pre {K : T → Prop} {out out' : List Rsn} {s : Rsn} {k : Nat} (h : RtO K out s k) (hk : k ≤ out.length) (hp : out <+: out') : RtO K out' s k := by
  obtain ⟨how, frm, h1, h2, h3, h4⟩ := h
  exact ⟨how, frm, h1, h2, h3, h4.congr fun j hj => tO_pre hp (by have := h3 j hj; omega)⟩
structure NdS (K : T → Prop) (W : List Stp) (is : List Nat) (out : List Rsn) (pl : List (Nat × Nat)) : Prop where
  len : is.length = out.length
  look : ∀ i k, pl.lookup i = some k ↔ is[k]? = some i
  nod : is.Nodup
  lt : ∀ x ∈ is, x < W.length
  term : ∀ k (h : k < out.length) (h' : k < is.length), out[k].t = termAt W is[k]
  right : ∀ k (h : k < out.length), RtO K out out[k] k
theorem NdS.nil (K : T → Prop) (W : List Stp) : NdS K W [] [] [] := ⟨rfl, fun i k => by simp, List.nodup_nil, fun x h => (by cases h), fun k h => absurd h (Nat.not_lt_zero _), fun k h => absurd h (Nat.not_lt_zero _)⟩
theorem NdS.push {K : T → Prop} {W : List Stp} {is : List Nat} {out : List Rsn} {pl : List (Nat × Nat)} (h : NdS K W is out pl) {i : Nat} (hi : i < W.length) (hn : i ∉ is) (s : Rsn) (hs : s.t = termAt W i) (hr : RtO K out s out.length) :
    NdS K W (is ++ [i]) (out ++ [s]) ((i, out.length) :: pl) := by
  have hl := h.len
  have hp : out <+: out ++ [s] := List.prefix_append _ _
  refine ⟨by simp [hl], fun x k => ?_, ?_, fun x hx => ?_, fun k hk hk' => ?_, fun k hk => ?_⟩
  · rw [List.lookup_cons]
    by_cases e : x = i
    · subst e
      have e1 : (x == x) = true := by simp
      rw [e1]
      constructor
      · intro h'; injection h' with h'; subst h'
        rw [← hl]; simp
      · intro h'
        rcases Nat.lt_or_ge k is.length with g | g
        · rw [List.getElem?_append_left g] at h'
          exact absurd (List.mem_of_getElem? h') hn
        · rw [List.getElem?_append_right g] at h'
          have : k - is.length = 0 := by
            cases hh : k - is.length with
            | zero => rfl
            | succ n => rw [hh] at h'; simp at h'
          show some out.length = some k
          congr 1; omega
    · have e1 : (x == i) = false := beq_eq_false_iff_ne.2 e
      rw [e1]
      constructor
      · intro h'
        have := (h.look x k).1 h'
        have hk := (List.getElem?_eq_some_iff.1 this).1
        rw [List.getElem?_append_left hk]; exact this
      · intro h'
        rcases Nat.lt_or_ge k is.length with g | g
        · rw [List.getElem?_append_left g] at h'
          exact (h.look x k).2 h'
        · rw [List.getElem?_append_right g] at h'
          cases hh : k - is.length with
          | zero => rw [hh] at h'; simp at h'; exact absurd h'.symm e
          | succ n => rw [hh] at h'; simp at h'
  · exact List.nodup_append.2 ⟨h.nod, by simp, fun a ha b hb e => by rw [List.mem_singleton] at hb; subst hb; subst e; exact hn ha⟩
  · rcases List.mem_append.1 hx with hx | hx
    · exact h.lt x hx
    · rw [List.mem_singleton] at hx; rw [hx]; exact hi
  · by_cases hkl : k < out.length
    · rw [List.getElem_append_left hkl, List.getElem_append_left (by omega)]
      exact h.term k hkl (by omega)
    · have e : k = out.length := by simp at hk; omega
      subst e
      rw [List.getElem_append_right (Nat.le_refl _), List.getElem_append_right (by omega)]
      simpa using hs
  · by_cases hkl : k < out.length
    · rw [List.getElem_append_left hkl]
      exact (h.right k hkl).pre (by omega) hp
    · have e : k = out.length := by simp at hk; omega
      subst e
      rw [List.getElem_append_right (Nat.le_refl _)]
      simpa using hr.pre (Nat.le_refl _) hp
/-- What the recursion gives. -/
def NdG (K : T → Prop) (W : List Stp) (i : Nat) (rec : List Rsn → List (Nat × Nat) → Nat → NdR) : Prop := ∀ is out pl, NdS K W is out pl → ∃ is', NdS K W is' (rec out pl i).1.1 (rec out pl i).1.2 ∧ (∀ x ∈ is', x ∈ is ∨ x ≤ i) ∧ out <+: (rec out pl i).1.1 ∧ (rec out pl i).2 < (rec out pl i).1.1.length ∧ tO (rec out pl i).1.1 (rec out pl i).2 = termAt W i
theorem ndl_R {K : T → Prop} {W : List Stp} {b : Nat} {rec : List Rsn → List (Nat × Nat) → Nat → NdR} : ∀ (js : List Nat), (∀ j ∈ js, j < b ∧ NdG K W j rec) → ∀ is out pl ks, NdS K W is out pl →
    ∃ is' ms, NdS K W is' (ndl rec js out pl ks).1.1 (ndl rec js out pl ks).1.2 ∧ (∀ x ∈ is', x ∈ is ∨ x < b) ∧ out <+: (ndl rec js out pl ks).1.1 ∧ (ndl rec js out pl ks).2 = ks ++ ms.map (fun (n : Nat) => (n : Int)) ∧
      Sent (fun j m => m < (ndl rec js out pl ks).1.1.length ∧ tO (ndl rec js out pl ks).1.1 m = termAt W j) js ms
  | [], _, is, out, pl, ks, h => ⟨is, [], h, fun x hx => .inl hx, List.prefix_refl _, by simp [ndl], .nil⟩
  | j :: js, hj, is, out, pl, ks, h => by
    obtain ⟨h1, h2⟩ := hj j (by simp)
    obtain ⟨is1, a1, a2, a3, a4, a5⟩ := h2 is out pl h
    obtain ⟨is2, ms, b1, b2, b3, b4, b5⟩ := ndl_R js (fun x hx => hj x (List.mem_cons_of_mem _ hx)) is1 (rec out pl j).1.1 (rec out pl j).1.2 (ks ++ [((rec out pl j).2 : Int)]) a1
    refine ⟨is2, (rec out pl j).2 :: ms, b1, fun x hx => ?_, a3.trans b3, by show (ndl rec js _ _ _).2 = _; rw [b4]; simp, .cons ⟨Nat.lt_of_lt_of_le a4 b3.length_le, (tO_pre b3 a4).trans a5⟩ b5⟩
    rcases b2 x hx with h7 | h7
    · rcases a2 x h7 with h8 | h8
      · exact .inl h8
      · right; omega
    · exact .inr h7
theorem look_none {K : T → Prop} {W : List Stp} {is : List Nat} {out : List Rsn} {pl : List (Nat × Nat)} (h : NdS K W is out pl) {i : Nat} (hl : pl.lookup i = none) : i ∉ is := fun hm => by
  obtain ⟨k, hk, e⟩ := List.getElem_of_mem hm
  have := (h.look i k).2 (by rw [List.getElem?_eq_getElem hk, e])
  rw [hl] at this; cases this
theorem nd_R {K : T → Prop} {W : List Stp} (hO : Ord W) (hR : RW K W) : ∀ (f i : Nat), i < f → i < W.length → NdG K W i (nd f W)
  | 0, i, h, _ => absurd h (Nat.not_lt_zero _)
  | f + 1, i, hf, hi => fun is out pl hI => by
    have hk : ∀ j ∈ frmAt W i, j < i ∧ NdG K W j (nd f W) := fun j hj => by
      rw [frm_at hi] at hj
      have h1 := (hO i hi).2 j hj
      exact ⟨h1, nd_R hO hR f j (by omega) (by omega)⟩
    cases hl : pl.lookup i with
    | some k =>
      rw [nd_known hl]
      have h1 := (hI.look i k).1 hl
      obtain ⟨hk1, hk2⟩ := List.getElem?_eq_some_iff.1 h1
      have hko : k < out.length := by have := hI.len; omega
      exact ⟨is, hI, fun x hx => .inl hx, List.prefix_refl _, hko, by show tO out k = _; rw [tO_at hko, hI.term k hko hk1, hk2]⟩
    | none =>
      rw [nd_new hl]
      obtain ⟨is1, ms, b1, b2, b3, b4, b5⟩ := ndl_R (frmAt W i) hk is out pl [] hI
      rw [List.nil_append] at b4
      generalize ndl (nd f W) (frmAt W i) out pl [] = q at b1 b3 b4 b5
      have hni : i ∉ is1 := fun hm => by
        rcases b2 i hm with h3 | h3
        · exact look_none hI hl h3
        · omega
      have hrt := (hR i hi).2
      rw [← term_at hi, ← how_at hi, ← frm_at hi] at hrt
      have hst : RtO K q.1.1 ⟨termAt W i, (howAt W i : Int), q.2⟩ q.1.1.length := ⟨howAt W i, ms, rfl, b4, fun j hj => b5.snd (p := (· < q.1.1.length)) (fun _ _ h => h.1) j hj, hrt.sent (b5.imp fun _ _ h => h.2)⟩
      refine ⟨is1 ++ [i], b1.push hi hni _ rfl hst, fun x hx => ?_, b3.trans (List.prefix_append _ _), by show q.1.1.length < (q.1.1 ++ [_]).length; simp, ?_⟩
      · rcases List.mem_append.1 hx with hx | hx
        · rcases b2 x hx with h3 | h3
          · exact .inl h3
          · right; omega
        · rw [List.mem_singleton] at hx; right; omega
      · show tO (q.1.1 ++ [_]) q.1.1.length = _
        rw [tO_at (by simp)]
        simp
end Wb
/-- A right deduction of a goal. -/
structure DedOk (K : T → Prop) (L : List Rsn) (t : T) : Prop where
  pos : 0 < L.length
  right : ∀ k (h : k < L.length), Wb.RtO K L L[k] k
  apart : ∀ i k (h : i < L.length) (h' : k < L.length), L[i].t = L[k].t → i = k
  last : ∀ (h : L.length - 1 < L.length), L[L.length - 1].t = t
theorem der_right {U K : List T} (hU : Uni U) (hK : ∀ t ∈ K, t ∈ U) {t : T} (ht : t.use = true → t ∈ U) {N : Nat} {L : List Rsn} (h : derV (Wb.fill N K) t = some L) : t.use = true ∧ DedOk (· ∈ K) L t ∧ L.length ≤ U.length ∧ ∀ s ∈ L, s.t ∈ U := by
  unfold derV at h
  split at h
  · rename_i hu
    have hI0 : Inv U (Wb.fill N K) := by
      have h0 := Wb.start_inv hK K.length
      rw [List.take_of_length_le (Nat.le_refl _)] at h0
      exact (Wb.run_facts hU ⟨#[]⟩ N _ _ h0).1
    obtain ⟨i, hi, e⟩ := Option.map_eq_some_iff.1 h
    obtain ⟨p1, _, p3⟩ := Wb.bld_inv hU (ht hu) hI0
    have hil := p3 i hi
    have hO := Wb.bld_ord hU (ht hu) hI0 (Wb.fill_ord hU hK N)
    obtain ⟨r1, r2⟩ := Wb.bld_R hU (ht hu) hI0 (Wb.fill_R hU hK N)
    have hti := r2 i hi
    obtain ⟨is, a1, _, _, _, _⟩ := Wb.nd_R hO r1 (i + 1) i (Nat.lt_succ_self _) hil [] [] [] (Wb.NdS.nil _ _)
    have hI := Wb.nd_inv hO (i + 1) i (Nat.lt_succ_self _) hil [] [] (Wb.NdI.nil _)
    have hlen := hI.1.len
    rw [e] at a1 hlen
    have hnew : L = (Wb.ndl (Wb.nd i (Wb.bld (Wb.fill N K) t).1) (Wb.frmAt (Wb.bld (Wb.fill N K) t).1 i) [] [] []).1.1 ++ [⟨Wb.termAt (Wb.bld (Wb.fill N K) t).1 i, (Wb.howAt (Wb.bld (Wb.fill N K) t).1 i : Int), (Wb.ndl (Wb.nd i (Wb.bld (Wb.fill N K) t).1) (Wb.frmAt (Wb.bld (Wb.fill N K) t).1 i) [] [] []).2⟩] := by
      rw [← e, Wb.nd_new (by rfl)]
    refine ⟨hu, ⟨by rw [hnew]; simp, a1.right, fun x y hx hy exy => ?_, fun hh => ?_⟩, Nat.le_trans hlen p1.len, fun s hs => ?_⟩
    · have hl := a1.len
      rw [a1.term x hx (by omega), a1.term y hy (by omega)] at exy
      have g1 := a1.lt _ (List.getElem_mem (show x < is.length by omega))
      have g2 := a1.lt _ (List.getElem_mem (show y < is.length by omega))
      rw [Wb.term_at g1, Wb.term_at g2] at exy
      have hap := p1.apart
      have := (List.getElem_inj (i := is[x]) (j := is[y]) (h₀ := by rw [List.length_map]; exact g1) (h₁ := by rw [List.length_map]; exact g2) hap).1 (by rw [List.getElem_map, List.getElem_map, exy])
      exact (List.getElem_inj a1.nod).1 this
    · have : ∀ (M : List Rsn) (s : Rsn) (hh : (M ++ [s]).length - 1 < (M ++ [s]).length), (M ++ [s])[(M ++ [s]).length - 1].t = s.t := fun M s hh => by
        have e : (M ++ [s])[(M ++ [s]).length - 1] = s := by
          rw [List.getElem_append_right (by simp)]; simp
        rw [e]
      subst hnew
      exact (this _ _ hh).trans hti
    · obtain ⟨k, hk, rfl⟩ := List.getElem_of_mem hs
      have hl := a1.len
      rw [a1.term k hk (by omega)]
      have g1 := a1.lt _ (List.getElem_mem (show k < is.length by omega))
      rw [Wb.term_at g1]
      exact p1.mem _ (List.getElem_mem g1)
  · cases h
end Go.Proofs.YtihbmgkbipeakaaGreat

namespace Go.Proofs.YtihbmgkbipeakaaGreat
open Go.RowKit

/-- Below, and the draws have not become fewer. -/
structure BelowD (B : Nat) (w w' : World) : Prop extends Below B w w' where
  drawn : w.drawn ≤ w'.drawn
theorem BelowD.refl (B : Nat) (w : World) : BelowD B w w := ⟨Below.refl B w, Nat.le_refl _⟩
theorem BelowD.trans {B : Nat} {a b c : World} (h : BelowD B a b) (k : BelowD B b c) : BelowD B a c := ⟨h.toBelow.trans k.toBelow, Nat.le_trans h.drawn k.drawn⟩
theorem BelowD.mono {B B' : Nat} {w w' : World} (h : BelowD B w w') (hB : B' ≤ B) : BelowD B' w w' := ⟨h.toBelow.mono hB, h.drawn⟩
theorem BelowD.drew {B : Nat} {a w : World} (h : BelowD B a w) : BelowD B a w.drew := ⟨h.toBelow.drew, Nat.le_succ_of_le h.drawn⟩
theorem BelowD.alloc {B : Nat} {a w : World} (h : BelowD B a w) (hB : B ≤ w.heap.size) (o : Obj) : BelowD B a (w.alloc o) := ⟨h.toBelow.alloc hB o, h.drawn⟩
/-- As the sort asks it. -/
theorem BelowD.grow {w w' : World} (h : BelowD w.heap.size w w') : ∃ q os, w' = Go.Sort.grow (w.drewN q) os := by
  refine ⟨w'.drawn - w.drawn, w'.heap.extract w.heap.size w'.heap.size, ?_⟩
  have hd := h.drawn
  have hh : w'.heap = w.heap ++ w'.heap.extract w.heap.size w'.heap.size := by
    apply Array.ext_getElem?
    intro i
    have hs := h.size
    rw [Array.getElem?_append]
    split
    · rename_i hi; exact h.block i hi
    · rename_i hi
      rw [Array.getElem?_extract]
      split
      · congr 1; omega
      · rw [Array.getElem?_eq_none (by omega)]
  obtain ⟨h1, t1, d1, o1, u1⟩ := w'
  have e1 := h.os; have e2 := h.tape; have e3 := h.output
  dsimp only at hd hh e1 e2 e3 ⊢
  unfold Go.Sort.grow World.drewN
  dsimp only
  congr 1
  omega
end Go.Proofs.YtihbmgkbipeakaaGreat

namespace Go.Proofs.YtihbmgkbipeakaaGreat
open Go.RowKit

def sameB (t t' : T) : Bool := decide (t.cmp t' = 0)
set_option maxRecDepth 100000 in
set_option maxHeartbeats 4000000 in
theorem osame (t t' : T) (v v' : Value) (w : World) (ht : TermAt w v t) (ht' : TermAt w v' t') (hb : t.bulk ≤ 1048576) (hb' : t'.bulk ≤ 1048576) :
    Calls Tryz.prog 86 #[v, v'] w fun e w' => e = .returned (.bool (sameB t t')) ∧ Below w.heap.size w w' := by
  unfold sameB
  cases ht with
  | mk k s A cap ks U h1 h2 h3 h4 hA hU =>
  cases ht' with
  | mk k' s' A' cap' ks' U' h1' h2' h3' h4' hA' hU' =>
    have hc := fun W hW hW' => ocmp ((T.mk k s ks).bulk + 1) (.mk k s ks) (.mk k' s' ks') (.agg #[.int .i64 k, .string s, .slice A ks.length cap]) (.agg #[.int .i64 k', .string s', .slice A' ks'.length cap']) W (by omega) hW hW' hb hb'
    have ht := TermAt.mk k s A cap ks U h1 h2 h3 h4 hA hU
    have ht' := TermAt.mk k' s' A' cap' ks' U' h1' h2' h3' h4' hA' hU'
    have HC := Lib.hid hc; have HT := Lib.hid ht; have HT' := Lib.hid ht'
    obtain ⟨c, hcv⟩ : ∃ c, (T.mk k s ks).cmp (.mk k' s' ks') = c := ⟨_, rfl⟩
    have HCV := Lib.hid hcv
    clear hc ht ht' hA hA' hU hU' hcv
    go_enter Tryz.func86, Tryz.ntmps86
    go_wp2_with fail
    have hb1 := (boxed_two w (.int .i64 k) (.string s) (.slice A ks.length cap) (.int .i64 k') (.string s') (.slice A' ks'.length cap') 29).2.2
    refine (HC.out _ (HT.out.later hb1) (HT'.out.later hb1)).mono ?_; rintro e w2 ⟨rfl, hb4⟩
    replace hb4 := hb1.trans (hb4.mono hb1.size)
    rw [HCV.out]
    go_wp2_with fail
    go_ret
    exact ⟨ret_bool (by rw [HCV.out, Bool.eq_iff_iff, beq_iff_eq, decide_eq_true_eq]), hb4⟩

/-- Is a number none of the places ahead of i. -/
def offB (i : Nat) (x : Int) : Bool := decide (x < 0) || decide ((i : Int) ≤ x)
set_option maxRecDepth 100000 in
theorem off_gives (i bi : Nat) (w : World) (hc : w.cell? ⟨bi, 0, none⟩ = some (.int .i64 (i : Int))) : PredAt Tryz.prog 83 #[.pointer (some ⟨bi, 0, none⟩)] (Value.int .i64) (offB i) w := fun W x hb => by
  have hl := World.block_lt_of_cell? w _ hc
  have hcW := cell_later hb hc
  show Calls Tryz.prog 83 #[.int .i64 x, .pointer (some ⟨bi, 0, none⟩)] W _
  by_cases h : x < 0
  · have hB : offB i x = true := by unfold offB; rw [decide_eq_true h]; rfl
    rw [hB]
    clear hb hl hB hc
    go_enter Tryz.func83, Tryz.ntmps83
    go_wp2_with fail
    go_ret
    exact ⟨rfl, 0, rfl⟩
  · have hB : offB i x = decide ((i : Int) ≤ x) := by unfold offB; rw [decide_eq_false h]; rfl
    rw [hB]
    clear hb hl hB hc
    go_enter Tryz.func83, Tryz.ntmps83
    go_wp2_with fail
    go_ret
    exact ⟨rfl, 0, rfl⟩
theorem oints {F : Option Addr} {fc bi i : Nat} {ns : List Int} (w : World) (hF : IntsIn (fun _ => true) w F ns) (hc : w.cell? ⟨bi, 0, none⟩ = some (.int .i64 (i : Int))) (hl : ns.length ≤ 1048576) :
    Calls Tryz.prog 82 #[.slice F ns.length fc, .func (.func 83) #[] #[.pointer (some ⟨bi, 0, none⟩)]] w fun e w' => e = .returned (.bool (ns.any (offB i))) ∧ Below w.heap.size w w' := by
  rcases hF with h0 | ⟨b, off, rfl, _, hcell⟩
  · have hn : ns = [] := List.eq_nil_of_length_eq_zero h0
    subst hn
    have h := AnyE.slices_ContainsFunc_empty (P := Tryz.prog) Tryz.layCi F fc (.func (.func 83) #[] #[.pointer (some ⟨bi, 0, none⟩)]) w
    change Calls Tryz.prog 82 _ _ _ at h
    refine h.mono ?_
    rintro e w' ⟨rfl, rfl⟩
    exact ⟨rfl, Below.refl _ _⟩
  · have eg : ∀ args w, (callFunc 83 args).run Tryz.prog w = .ok (.enter 83 args) w := enters_of Tryz.func83 (by kernel_rfl) rfl
    have h := AnyE.slices_ContainsFunc (P := Tryz.prog) Tryz.layCi (Value.int .i64) (offB i) 83 #[.pointer (some ⟨bi, 0, none⟩)] eg b off ns.length fc ns w (off_gives i bi w hc) (Nat.le_refl _) (by omega) (fun j hj => by rw [getElem!_pos ns j hj]; exact hcell j hj)
    change Calls Tryz.prog 82 _ _ _ at h
    refine h.mono ?_
    rintro e w' ⟨rfl, q, rfl⟩
    rw [List.take_length]
    exact ⟨rfl, below_drewN (Below.refl _ _) q⟩
/-- A term and its cells. -/
def TCell (w : World) : Type := { x : (Int × ByteArray × Option Addr × Nat × Nat) × T // TermAt w (.agg #[.int .i64 x.1.1, .string x.1.2.1, .slice x.1.2.2.1 x.1.2.2.2.1 x.1.2.2.2.2]) x.2 ∧ x.2.bulk ≤ 1048576 }
instance (w : World) : Inhabited (TCell w) := ⟨⟨((0, ⟨#[]⟩, none, 0, 0), .mk 0 ⟨#[]⟩ []), TermAt.mk 0 ⟨#[]⟩ none 0 [] (fun _ => (undef, undef, undef)) (by decide) (by decide) (Nat.le_refl _) (Nat.zero_le _) (.inl rfl) (fun i h => by simp at h), by decide⟩⟩
def TCell.enc {w : World} (x : TCell w) : List Value := [.int .i64 x.1.1.1, .string x.1.1.2.1, .slice x.1.1.2.2.1 x.1.1.2.2.2.1 x.1.1.2.2.2.2]
set_option maxRecDepth 100000 in
theorem same_gives (s : T) (bs : Nat) (A : Option Addr) (c : Nat) (w : World) (c0 : w.cell? ⟨bs, 0, none⟩ = some (.int .i64 s.kind)) (c1 : w.cell? ⟨bs, 1, none⟩ = some (.string s.name)) (c2 : w.cell? ⟨bs, 2, none⟩ = some (.slice A s.kids.length c))
    (hs : TermAt w (.agg #[.int .i64 s.kind, .string s.name, .slice A s.kids.length c]) s) (hb : s.bulk ≤ 1048576) : PredBelow Tryz.prog 85 #[.pointer (some ⟨bs, 0, none⟩)] (fun x : TCell w => .agg x.enc.toArray) (fun x => sameB x.1.2 s) w := fun W x hB => by
  obtain ⟨⟨⟨k, nm, Ax, nx, cx⟩, t⟩, ht, htb⟩ := x
  show Calls Tryz.prog 85 #[.agg #[.int .i64 k, .string nm, .slice Ax nx cx], .pointer (some ⟨bs, 0, none⟩)] W fun e w' => e = .returned (.bool (sameB t s)) ∧ Below w.heap.size w w'
  have ht' : TermAt W (.agg #[.int .i64 k, .string nm, .slice Ax nx cx]) t := TermAt.later ht hB
  have hw := below_alloc1 W (.cells #[.int .i64 k, .string nm, .slice Ax nx cx] 29)
  have bx := Box.new W (.int .i64 k) (.string nm) (.slice Ax nx cx)
  have hbw := hB.trans (hw.mono hB.size)
  have HS := Lib.hid (fun W' (h1 : TermAt W' (.agg #[.int .i64 k, .string nm, .slice Ax nx cx]) t) h2 => osame t s _ (.agg #[.int .i64 s.kind, .string s.name, .slice A s.kids.length c]) W' h1 h2 htb hb)
  have HT := Lib.hid (ht'.later hw); have HSS := Lib.hid (hs.later hbw); have HB := Lib.hid hbw
  have d0 := cell_later hbw c0; have d1 := cell_later hbw c1; have d2 := cell_later hbw c2
  clear ht ht' hw hbw c0 c1 c2 hs hB
  generalize sameB t s = R at HS ⊢
  go_enter Tryz.func85, Tryz.ntmps85
  go_upto_region 1 with fail
  generalize W.alloc (.cells #[.int .i64 k, .string nm, .slice Ax nx cx] 29) = w1 at bx HT HSS HB d0 d1 d2 ⊢
  obtain ⟨x0, x1, x2⟩ := bx.cells
  clear bx
  go_wp2_with fail
  refine (HS.out _ HT.out HSS.out).mono ?_; rintro e w2 ⟨rfl, hb2⟩
  have HB2 := Lib.hid (HB.out.trans (hb2.mono HB.out.size))
  clear hb2 x0 x1 x2 d0 d1 d2
  go_wp2_with fail
  go_ret
  exact ⟨rfl, HB2.out⟩
end Go.Proofs.YtihbmgkbipeakaaGreat

namespace Go.Proofs.YtihbmgkbipeakaaGreat
open Go.RowKit Go.Sort

/-- A term of the row that is sorted: it lies apart from the row. -/
def SCell (w : World) (blk : Nat) : Type := { x : (Int × ByteArray × Option Addr × Nat × Nat) × T // TermIn (but 0 (some blk)) w (.agg #[.int .i64 x.1.1, .string x.1.2.1, .slice x.1.2.2.1 x.1.2.2.2.1 x.1.2.2.2.2]) x.2 ∧ x.2.bulk ≤ 1048576 }
instance (w : World) (blk : Nat) : Inhabited (SCell w blk) := ⟨⟨((0, ⟨#[]⟩, none, 0, 0), .mk 0 ⟨#[]⟩ []), atom_in _ _ 0 ⟨#[]⟩ (by decide) (by decide), by decide⟩⟩
def SCell.enc {w : World} {blk : Nat} (x : SCell w blk) : List Value := [.int .i64 x.1.1.1, .string x.1.1.2.1, .slice x.1.1.2.2.1 x.1.1.2.2.2.1 x.1.1.2.2.2.2]
def SCell.t {w : World} {blk : Nat} (x : SCell w blk) : T := x.1.2
def SCell.cf {w : World} {blk : Nat} (x y : SCell w blk) : Int := T.cmp x.t y.t
end Go.Proofs.YtihbmgkbipeakaaGreat
