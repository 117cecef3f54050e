/- Several texts in one: Util, Take, Term, TermSize. -/
import Derived.WalkKit
import Derived.WalkSpells
import Derived.WalkLawsBesides
import Derived.Lib.Hide
import Derived.Lib.BufferRead
import Derived.Laws.OwnMore
import Derived.Laws.IdiomStrings
import Derived.Lib.Strings
import Derived.Lib.IndexBytes
import Derived.BigQuiet
import Derived.Deep.QuietTactic
import Derived.Deep.OwnRows
import Derived.BigRegion
import Derived.OrdersHeld
import Derived.Below
import Derived.Deep.RegionHeld
import Derived.Test.YtihbmgkbipeakaaGreatRows
import Derived.ProofKit
import Derived.OpenShut
import Derived.Maps.Range
import Derived.Deep.Slices
import Derived.Deep.Fields
import Derived.ChangeSame
import Derived.ChangeArms
import Derived.IntWalk
namespace Go.Proofs.YtihbmgkbipeakaaGreat
open Go.RowKit

theorem ret_i64 {a b : Int} (h : a = b) : Ending.returned (.int .i64 a) = .returned (.int .i64 b) := by rw [h]
theorem ret_bool {a b : Bool} (h : a = b) : Ending.returned (.bool a) = .returned (.bool b) := by rw [h]
theorem ret_str {a b : ByteArray} (h : a = b) : Ending.returned (.string a) = .returned (.string b) := by rw [h]
theorem quiet_any {P : Program} {f : FuncId} {args : Array Value} {w wq : World} {v : Value} (h : Calls P f args wq fun e w' => e = .returned v ∧ wq = w') (hq : ∃ m, wq = w.drewN m := by exact ⟨_, rfl⟩) :
    Calls P f args wq fun e w'' => e = .returned v ∧ ∃ m, w'' = w.drewN m := h.mono fun _ _ ⟨he, hm⟩ => ⟨he, by obtain ⟨m, hm'⟩ := hq; exact ⟨m, by rw [← hm]; exact hm'⟩⟩
theorem below_drewN {B : Nat} {a w : World} (h : Below B a w) (n : Nat) : Below B a (w.drewN n) := ⟨h.os, h.tape, h.output, h.size, h.block⟩
theorem str_of (s : ByteArray) : s = ⟨s.data.toList.toArray⟩ := by apply ByteArray.ext; simp
theorem str_size (l : List UInt8) : (⟨l.toArray⟩ : ByteArray).size = l.length := by show l.toArray.size = _; simp

theorem str_eq {a b : ByteArray} (h : a.data.toList = b.data.toList) : a = b := by apply ByteArray.ext; exact Array.toList_inj.1 h
/-- Block g begins with these bytes, and they may be written. -/
def BytesAt (w : World) (g : Nat) (l : List UInt8) : Prop := ∀ i (h : i < l.length), w.cell? ⟨g, i, none⟩ = some (.int .u8 (l[i].toNat : Int)) ∧ w.frozen? ⟨g, i, none⟩ = false
theorem BytesAt.drewN {w : World} {g : Nat} {l : List UInt8} (h : BytesAt w g l) (n : Nat) : BytesAt (w.drewN n) g l := h
theorem BytesAt.conv {P : Program} {w : World} {g : Nat} {l : List UInt8} (h : BytesAt w g l) (src dst e : TypeId) (n c : Nat) (hn : n = l.length)
    (hs : P.underlying src = some (.slice e)) (he : P.underlying e = some (.int .u8)) (hd : P.underlying dst = some .string) :
    (convert src dst (.slice (some ⟨g, 0, none⟩) n c)).run P w = .ok (.string ⟨l.toArray⟩) w := by
  subst hn
  refine run_convert_bytes_back w src dst e ⟨g, 0, none⟩ c l hs he hd fun j hj => ?_
  have e0 : (⟨g, 0, none⟩ : Addr).add j = ⟨g, j, none⟩ := by simp [Addr.add]; omega
  rw [e0]; exact (h j hj).1
end Go.Proofs.YtihbmgkbipeakaaGreat

namespace Go
section
variable {P : Program} {ops : Array Oper} {Q : Exit → Act → World → Prop} {md : Region.Mode} {S : World → Prop}
/-- It is wanted; the frame behind it is said plainly. -/
theorem tkJ (i : Nat) {oi : Oper} (v : Value) {fuel : Nat} {listed l' : Array Bool} {a a' : Act} {w : World} (hi : ops[i]? = some oi := by (simp only [List.getElem?_toArray, List.getElem?_cons_succ, List.getElem?_cons_zero]; rfl))
    (hs : Region.noSelect ops = true := by kernel_rfl) (hf : Region.free md ops listed i = true := by kernel_rfl) (hr : (Region.ready md ops listed).contains i = true := by kernel_rfl)
    (hQ : ∀ c a w, Q (.panic c) (a.put oi.dst v) w → Q (.panic c) a w := by exact fun _ _ _ h => h) (hw : Region.wanted oi (yielded ops a.tmps) = true := by rfl)
    (hy : ∀ w, S w → (execOp a.eval oi).run P w = .ok (.value v) w := by (intro w hSw; (try dsimp only at hSw); go_simp; (try with_reducible rfl))) (hS : S w := by assumption)
    (hl : listed.setIfInBounds i true = l' := by ((try simp only [List.setIfInBounds_toArray, List.set_cons_zero, List.set_cons_succ]); try rfl)) (ha : a.put oi.dst v = a' := by ((try simp only [Act.put, List.setIfInBounds_toArray, List.set_cons_zero, List.set_cons_succ]); try rfl))
    (h : wpAnyH P md ops Q S fuel l' a' w) : wpAnyH P md ops Q S (fuel + 1) listed a w :=
  wpAnyH_take hi hs hf hr hQ (Or.inl ⟨hw, hy⟩) hS (by rw [hl, ha]; exact h)
/-- It is not wanted; the frame behind it is said plainly. -/
theorem tkM (i : Nat) {oi : Oper} {fuel : Nat} {listed l' : Array Bool} {a a' : Act} {w : World} (hi : ops[i]? = some oi := by (simp only [List.getElem?_toArray, List.getElem?_cons_succ, List.getElem?_cons_zero]; rfl))
    (hs : Region.noSelect ops = true := by kernel_rfl) (hf : Region.free md ops listed i = true := by kernel_rfl) (hr : (Region.ready md ops listed).contains i = true := by kernel_rfl)
    (hQ : ∀ c a w, Q (.panic c) (a.put oi.dst undef) w → Q (.panic c) a w := by exact fun _ _ _ h => h) (hw : Region.wanted oi (yielded ops a.tmps) = false := by rfl) (hS : S w := by assumption)
    (hl : listed.setIfInBounds i true = l' := by ((try simp only [List.setIfInBounds_toArray, List.set_cons_zero, List.set_cons_succ]); try rfl)) (ha : a.put oi.dst undef = a' := by ((try simp only [Act.put, List.setIfInBounds_toArray, List.set_cons_zero, List.set_cons_succ]); try rfl))
    (h : wpAnyH P md ops Q S fuel l' a' w) : wpAnyH P md ops Q S (fuel + 1) listed a w :=
  wpAnyH_take hi hs hf hr hQ (Or.inr ⟨hw, rfl⟩) hS (by rw [hl, ha]; exact h)
/-- One operation comes up; it ends in any frame and world. -/
theorem rdJ (i : Nat) {oi : Oper} {fuel : Nat} {listed l' : Array Bool} {a : Act} {w : World} (hi : ops[i]? = some oi := by (simp only [List.getElem?_toArray, List.getElem?_cons_succ, List.getElem?_cons_zero]; rfl))
    (hr : Region.ready md ops listed = [i] := by kernel_rfl) (hl : listed.setIfInBounds i true = l' := by ((try simp only [List.setIfInBounds_toArray, List.set_cons_zero, List.set_cons_succ]); try rfl))
    (h : ∀ K' : Act → World → Prop, Shut (∀ a w, S w → (S w → wpAnyH P md ops Q S fuel l' a w) → K' a w) → if Region.wanted oi (yielded ops a.tmps) = true then Oper.wp P oi a w K' Q else K' (a.put oi.dst undef) w) : wpAnyH P md ops Q S (fuel + 1) listed a w :=
  wpAnyH_ready hr (by simp) (AllReadyH.cons hi (fun K' hK => h K' (by rw [hl] at hK; exact hK)) AllReadyH.nil)
/-- The way back, the frame said plainly. -/
theorem shK {K' : Act → World → Prop} {X : Act → World → Prop} (hK : Shut (∀ a w, S w → (S w → X a w) → K' a w)) {a a' : Act} {w : World} (hS : S w) (ha : a = a' := by ((try simp only [Act.put, List.setIfInBounds_toArray, List.set_cons_zero, List.set_cons_succ]); try rfl)) (h : S w → X a' w) : K' a w :=
  hK.out _ _ hS (by rw [ha]; exact h)
end
end Go
namespace Go.RowKit
theorem cellL {W W' : World} (hb : Below W.heap.size W W') {p : Addr} {u : Value} (h : W.cell? p = some u) : W'.cell? p = some u := (hb.cell (World.block_lt_of_cell? W p h)).trans h
theorem held4 {w W W' : World} {p0 p1 p2 p3 : Addr} {v0 v1 v2 v3 : Value} (h : W.cell? p0 = some v0 ∧ W.cell? p1 = some v1 ∧ W.cell? p2 = some v2 ∧ W.cell? p3 = some v3 ∧ Below w.heap.size w W) (hb : Below W.heap.size W W') : W'.cell? p0 = some v0 ∧ W'.cell? p1 = some v1 ∧ W'.cell? p2 = some v2 ∧ W'.cell? p3 = some v3 ∧ Below w.heap.size w W' := ⟨cellL hb h.1, cellL hb h.2.1, cellL hb h.2.2.1, cellL hb h.2.2.2.1, h.2.2.2.2.trans (hb.mono h.2.2.2.2.size)⟩
theorem held5 {w W W' : World} {p0 p1 p2 p3 p4 : Addr} {v0 v1 v2 v3 v4 : Value} (h : W.cell? p0 = some v0 ∧ W.cell? p1 = some v1 ∧ W.cell? p2 = some v2 ∧ W.cell? p3 = some v3 ∧ W.cell? p4 = some v4 ∧ Below w.heap.size w W) (hb : Below W.heap.size W W') : W'.cell? p0 = some v0 ∧ W'.cell? p1 = some v1 ∧ W'.cell? p2 = some v2 ∧ W'.cell? p3 = some v3 ∧ W'.cell? p4 = some v4 ∧ Below w.heap.size w W' := ⟨cellL hb h.1, cellL hb h.2.1, cellL hb h.2.2.1, cellL hb h.2.2.2.1, cellL hb h.2.2.2.2.1, h.2.2.2.2.2.trans (hb.mono h.2.2.2.2.2.size)⟩
theorem held7 {w W W' : World} {p0 p1 p2 p3 p4 p5 p6 : Addr} {v0 v1 v2 v3 v4 v5 v6 : Value} (h : W.cell? p0 = some v0 ∧ W.cell? p1 = some v1 ∧ W.cell? p2 = some v2 ∧ W.cell? p3 = some v3 ∧ W.cell? p4 = some v4 ∧ W.cell? p5 = some v5 ∧ W.cell? p6 = some v6 ∧ Below w.heap.size w W) (hb : Below W.heap.size W W') : W'.cell? p0 = some v0 ∧ W'.cell? p1 = some v1 ∧ W'.cell? p2 = some v2 ∧ W'.cell? p3 = some v3 ∧ W'.cell? p4 = some v4 ∧ W'.cell? p5 = some v5 ∧ W'.cell? p6 = some v6 ∧ Below w.heap.size w W' := ⟨cellL hb h.1, cellL hb h.2.1, cellL hb h.2.2.1, cellL hb h.2.2.2.1, cellL hb h.2.2.2.2.1, cellL hb h.2.2.2.2.2.1, cellL hb h.2.2.2.2.2.2.1, h.2.2.2.2.2.2.2.trans (hb.mono h.2.2.2.2.2.2.2.size)⟩
theorem held8 {w W W' : World} {p0 p1 p2 p3 p4 p5 p6 p7 : Addr} {v0 v1 v2 v3 v4 v5 v6 v7 : Value} (h : W.cell? p0 = some v0 ∧ W.cell? p1 = some v1 ∧ W.cell? p2 = some v2 ∧ W.cell? p3 = some v3 ∧ W.cell? p4 = some v4 ∧ W.cell? p5 = some v5 ∧ W.cell? p6 = some v6 ∧ W.cell? p7 = some v7 ∧ Below w.heap.size w W) (hb : Below W.heap.size W W') : W'.cell? p0 = some v0 ∧ W'.cell? p1 = some v1 ∧ W'.cell? p2 = some v2 ∧ W'.cell? p3 = some v3 ∧ W'.cell? p4 = some v4 ∧ W'.cell? p5 = some v5 ∧ W'.cell? p6 = some v6 ∧ W'.cell? p7 = some v7 ∧ Below w.heap.size w W' := ⟨cellL hb h.1, cellL hb h.2.1, cellL hb h.2.2.1, cellL hb h.2.2.2.1, cellL hb h.2.2.2.2.1, cellL hb h.2.2.2.2.2.1, cellL hb h.2.2.2.2.2.2.1, cellL hb h.2.2.2.2.2.2.2.1, h.2.2.2.2.2.2.2.2.trans (hb.mono h.2.2.2.2.2.2.2.2.size)⟩
end Go.RowKit

namespace Go.Proofs.YtihbmgkbipeakaaGreat
open Go.RowKit Go.ChangeShapes Go.WideShapes Go.Deep

inductive T where
  | mk : Int → ByteArray → List T → T
namespace T
def kind : T → Int | mk k _ _ => k
def name : T → ByteArray | mk _ s _ => s
def kids : T → List T | mk _ _ ks => ks
end T
/-- A term, as a value, in a world. -/
inductive TermAt (w : World) : Value → T → Prop
  | mk (k : Int) (s : ByteArray) (A : Option Addr) (cap : Nat) (ks : List T) (U : Nat → Value × Value × Value) (hk : -9223372036854775808 ≤ k ∧ k ≤ 9223372036854775807) (hs : s.size ≤ maxLen) (hc : ks.length ≤ cap) (hm : cap ≤ maxLen)
      (hA : ks.length = 0 ∨ ∃ b off, A = some ⟨b, off, none⟩ ∧ ∀ i, i < ks.length → w.cell? ⟨b, off + i * 3, none⟩ = some (U i).1 ∧ w.cell? ⟨b, off + i * 3 + 1, none⟩ = some (U i).2.1 ∧ w.cell? ⟨b, off + i * 3 + 2, none⟩ = some (U i).2.2)
      (hU : ∀ i (h : i < ks.length), TermAt w (.agg #[(U i).1, (U i).2.1, (U i).2.2]) ks[i]) : TermAt w (.agg #[.int .i64 k, .string s, .slice A ks.length cap]) (.mk k s ks)
theorem TermAt.keep {w w' : World} {v : Value} {t : T} (h : TermAt w v t) (hk : ∀ p : Addr, (w.cell? p).isSome = true → w'.cell? p = w.cell? p) : TermAt w' v t := by
  induction h with
  | mk k s A cap ks U h1 h2 h3 h4 hA _ ih =>
    refine .mk k s A cap ks U h1 h2 h3 h4 ?_ ih
    rcases hA with hA | ⟨b, off, e, hc⟩
    · exact .inl hA
    · refine .inr ⟨b, off, e, fun i hi => ?_⟩
      obtain ⟨c0, c1, c2⟩ := hc i hi
      exact ⟨(hk _ (by rw [c0]; rfl)).trans c0, (hk _ (by rw [c1]; rfl)).trans c1, (hk _ (by rw [c2]; rfl)).trans c2⟩
theorem TermAt.later {w w' : World} {v : Value} {t : T} (h : TermAt w v t) (hb : Below w.heap.size w w') : TermAt w' v t := by
  refine h.keep fun p hp => ?_
  obtain ⟨v, hv⟩ := Option.isSome_iff_exists.1 hp
  rw [hv]; exact cell_later hb hv

mutual
/-- How many values and letters a term holds. -/
def T.bulk : T → Nat
  | .mk _ s ks => s.size + 4 + T.bulkAll ks
def T.bulkAll : List T → Nat
  | [] => 0
  | t :: r => T.bulk t + T.bulkAll r
end
end Go.Proofs.YtihbmgkbipeakaaGreat

namespace Go.Proofs.YtihbmgkbipeakaaGreat
open Go.RowKit

namespace T
mutual
def size : T → Nat
  | .mk _ _ ks => 1 + sizeAll ks
def sizeAll : List T → Nat
  | [] => 0
  | t :: r => size t + sizeAll r
end
mutual
theorem size_le : ∀ t : T, t.size ≤ t.bulk
  | .mk _ s ks => by have := sizeAll_le ks; simp only [size, bulk]; omega
theorem sizeAll_le : ∀ l : List T, sizeAll l ≤ bulkAll l
  | [] => by simp [sizeAll, bulkAll]
  | t :: r => by have := size_le t; have := sizeAll_le r; simp only [sizeAll, bulkAll]; omega
end
theorem bulk_at (l : List T) : ∀ (i : Nat) (h : i < l.length), l[i].bulk ≤ bulkAll l := by
  induction l with
  | nil => intro i h; simp at h
  | cons t r ih =>
    intro i h
    cases i with
    | zero => simp only [List.getElem_cons_zero, bulkAll]; omega
    | succ i => have := ih i (by simpa using h); simp only [List.getElem_cons_succ, bulkAll]; omega
theorem sizeAll_take (l : List T) : ∀ (i : Nat) (h : i < l.length), sizeAll (l.take (i + 1)) = sizeAll (l.take i) + l[i].size := by
  induction l with
  | nil => intro i h; simp at h
  | cons t r ih =>
    intro i h
    cases i with
    | zero => simp [sizeAll]
    | succ i => have := ih i (by simpa using h); simp only [List.take_succ_cons, sizeAll, List.getElem_cons_succ, this]; omega
theorem bulkAll_take (l : List T) : ∀ i, bulkAll (l.take i) ≤ bulkAll l := by
  induction l with
  | nil => intro i; simp
  | cons t r ih =>
    intro i
    cases i with
    | zero => simp [bulkAll]
    | succ i => have := ih i; simp only [List.take_succ_cons, bulkAll]; omega
theorem bulk_pos (t : T) : 4 ≤ t.bulk := by cases t; simp only [bulk]; omega
theorem len_le : ∀ l : List T, 4 * l.length ≤ bulkAll l
  | [] => by simp [bulkAll]
  | t :: r => by have := bulk_pos t; have := len_le r; simp only [bulkAll, List.length_cons]; omega
end T
theorem TermAt.view {w : World} {a b c : Value} {t : T} (h : TermAt w (.agg #[a, b, c]) t) : a = .int .i64 t.kind ∧ b = .string t.name ∧ ∃ A cap, c = .slice A t.kids.length cap := by
  cases h
  exact ⟨rfl, rfl, _, _, rfl⟩
/-- A term in a box. -/
def Boxed (w : World) (g : Nat) (a b c : Value) : Prop := w.cell? ⟨g, 0, none⟩ = some a ∧ w.cell? ⟨g, 1, none⟩ = some b ∧ w.cell? ⟨g, 2, none⟩ = some c
theorem Boxed.later {w w' : World} {g : Nat} {a b c : Value} (h : Boxed w g a b c) (hb : Below w.heap.size w w') : Boxed w' g a b c :=
  ⟨cell_later hb h.1, cell_later hb h.2.1, cell_later hb h.2.2⟩
theorem boxed_new (w : World) (a b c : Value) (t : TypeId) : Boxed (w.alloc (.cells #[a, b, c] t)) w.heap.size a b c := by
  have := heap_alloc_new w (.cells #[a, b, c] t)
  refine ⟨?_, ?_, ?_⟩
  · exact cell_of_row _ _ 0 _ _ _ this
  · exact cell_of_row _ _ 1 _ _ _ this
  · exact cell_of_row _ _ 2 _ _ _ this

set_option maxRecDepth 100000 in
set_option maxHeartbeats 1000000 in
theorem rsize : ∀ (N : Nat) (t : T) (v : Value) (w : World), t.bulk < N → TermAt w v t → t.bulk ≤ 1048576 →
    Calls Tryz.prog 26 #[v] w fun e w' => e = .returned (.int .i64 t.size) ∧ Below w.heap.size w w' := by
  intro N
  induction N with
  | zero => intro t v w h; omega
  | succ N ih =>
    intro t v w hN ht hbk
    cases ht with
    | mk k s A cap ks U h1 h2 h3 h4 hA hU =>
      simp only [T.bulk] at hN hbk
      have hbx := boxed_new w (.int .i64 k) (.string s) (.slice A ks.length cap) 29
      have hb1 := (Below.refl w.heap.size w).alloc (Nat.le_refl _) (.cells #[.int .i64 k, .string s, .slice A ks.length cap] 29)
      go_enter Tryz.func26, Tryz.ntmps26
      go_wp2_with fail
      have hsz : w.heap.size < (w.alloc (.cells #[.int .i64 k, .string s, .slice A ks.length cap] 29)).heap.size := by show _ < (w.heap.push _).size; rw [Array.size_push]; omega
      generalize w.alloc (.cells #[.int .i64 k, .string s, .slice A ks.length cap] 29) = w1 at hbx hb1 hsz ⊢
      have hkl : T.bulkAll ks ≤ 1048576 := by omega
      have hkn : ks.length ≤ 1048576 := by have := T.len_le ks; omega
      have hsl := T.sizeAll_le ks
      go_loopw [3, 4] (fun sm i wr => ∃ j : Nat, j ≤ ks.length ∧ i = .int .i64 j ∧ sm = .int .i64 (1 + (T.sizeAll (ks.take j) : Nat)) ∧ Below w1.heap.size w1 wr) (fun _ i _ => ks.length - (intOf i).toNat)
      case atStart => exact ⟨0, Nat.zero_le _, rfl, by simp [T.sizeAll], Below.refl _ _⟩
      case round =>
        obtain ⟨j, hj, rfl, rfl, hbl⟩ := hrel
        obtain ⟨x0, x1, x2⟩ := hbx.later hbl
        by_cases hlt : j < ks.length
        · rcases hA with hA | ⟨b, off, rfl, hcell⟩
          · omega
          obtain ⟨d0, d1, d2⟩ := hcell j hlt
          have hu := hU j hlt
          have hbw := hb1.trans (hbl.mono hb1.size)
          have e0 := cell_later hbw d0; have e1 := cell_later hbw d1; have e2 := cell_later hbw d2
          clear d0 d1 d2
          generalize (U j).1 = u0 at *
          generalize (U j).2.1 = u1 at *
          generalize (U j).2.2 = u2 at *
          have hlt' : (j : Int) < (ks.length : Int) := by omega
          have hkb := T.bulk_at ks j hlt
          have hst := T.sizeAll_take ks j hlt
          have hszj := T.sizeAll_le (ks.take (j + 1))
          have hbj := T.bulkAll_take ks (j + 1)
          have q1 : IntKind.i64.wrap (1 + (T.sizeAll (ks.take j) : Nat) + (ks[j].size : Nat)) = 1 + (T.sizeAll (ks.take (j + 1)) : Nat) := by rw [hst, IntWalk.i64_in _ (by omega)]; push_cast; omega
          have hb2 : ks[j].bulk < N := by omega
          have hb3 : ks[j].bulk ≤ 1048576 := by omega
          have hu' := hu.later hbw
          have HB := Lib.hid hst
          have HLT := Lib.hid hlt
          clear hst hszj hbj hkb
          go_wp2_with fail
          refine (ih _ _ _ hb2 hu' hb3).mono ?_; rintro e w2 ⟨rfl, hb4⟩
          go_wp2_with fail
          go_roundw
          case rel => exact ⟨j + 1, HLT.out, by go_num, rfl, hbl.trans (hb4.mono hbl.size)⟩
          case measure => have := HLT.out; simp [intOf]; omega
        · obtain rfl : j = ks.length := by omega
          have hw : (1 + (T.sizeAll (ks.take ks.length) : Nat) : Int) = ((T.mk k s ks).size : Nat) := by rw [List.take_length]; simp [T.size]
          have HW := Lib.hid hw; clear hw
          go_wp2_with fail
          go_ret
          exact ⟨ret_i64 HW.out, hb1.trans (hbl.mono hb1.size)⟩
set_option maxRecDepth 100000 in
set_option maxHeartbeats 1000000 in
theorem osize : ∀ (N : Nat) (t : T) (v : Value) (w : World), t.bulk < N → TermAt w v t → t.bulk ≤ 1048576 →
    Calls Tryz.prog 115 #[v] w fun e w' => e = .returned (.int .i64 t.size) ∧ Below w.heap.size w w' := by
  intro N
  induction N with
  | zero => intro t v w h; omega
  | succ N ih =>
    intro t v w hN ht hbk
    cases ht with
    | mk k s A cap ks U h1 h2 h3 h4 hA hU =>
      simp only [T.bulk] at hN hbk
      have hbx := boxed_new w (.int .i64 k) (.string s) (.slice A ks.length cap) 29
      have hb1 := (Below.refl w.heap.size w).alloc (Nat.le_refl _) (.cells #[.int .i64 k, .string s, .slice A ks.length cap] 29)
      go_enter Tryz.func115, Tryz.ntmps115
      go_wp2_with fail
      have hsz : w.heap.size < (w.alloc (.cells #[.int .i64 k, .string s, .slice A ks.length cap] 29)).heap.size := by show _ < (w.heap.push _).size; rw [Array.size_push]; omega
      generalize w.alloc (.cells #[.int .i64 k, .string s, .slice A ks.length cap] 29) = w1 at hbx hb1 hsz ⊢
      have hkl : T.bulkAll ks ≤ 1048576 := by omega
      have hkn : ks.length ≤ 1048576 := by have := T.len_le ks; omega
      have hsl := T.sizeAll_le ks
      go_loopw [3, 9] (fun sm i wr => ∃ j : Nat, j ≤ ks.length ∧ i = .int .i64 j ∧ sm = .int .i64 (1 + (T.sizeAll (ks.take j) : Nat)) ∧ Below w1.heap.size w1 wr) (fun _ i _ => ks.length - (intOf i).toNat)
      case atStart => exact ⟨0, Nat.zero_le _, rfl, by simp [T.sizeAll], Below.refl _ _⟩
      case round =>
        obtain ⟨j, hj, rfl, rfl, hbl⟩ := hrel
        obtain ⟨x0, x1, x2⟩ := hbx.later hbl
        by_cases hlt : j < ks.length
        · rcases hA with hA | ⟨b, off, rfl, hcell⟩
          · omega
          obtain ⟨d0, d1, d2⟩ := hcell j hlt
          have hu := hU j hlt
          have hbw := hb1.trans (hbl.mono hb1.size)
          have e0 := cell_later hbw d0; have e1 := cell_later hbw d1; have e2 := cell_later hbw d2
          clear d0 d1 d2
          generalize (U j).1 = u0 at *
          generalize (U j).2.1 = u1 at *
          generalize (U j).2.2 = u2 at *
          obtain ⟨rfl, rfl, A', cap', rfl⟩ := hu.view
          have hlt' : (j : Int) < (ks.length : Int) := by omega
          have hkb := T.bulk_at ks j hlt
          have hst := T.sizeAll_take ks j hlt
          have hszj := T.sizeAll_le (ks.take (j + 1))
          have hbj := T.bulkAll_take ks (j + 1)
          have q1 : IntKind.i64.wrap (1 + (T.sizeAll (ks.take j) : Nat) + (ks[j].size : Nat)) = 1 + (T.sizeAll (ks.take (j + 1)) : Nat) := by rw [hst, IntWalk.i64_in _ (by omega)]; push_cast; omega
          have hb2 : ks[j].bulk < N := by omega
          have hb3 : ks[j].bulk ≤ 1048576 := by omega
          have hu' := hu.later hbw
          have HB := Lib.hid hst
          have HLT := Lib.hid hlt
          clear hst hszj hbj hkb
          go_wp2_with fail
          refine (ih _ _ _ hb2 (hu'.later ((Below.refl wr.heap.size wr).alloc (Nat.le_refl _) _)) hb3).mono ?_; rintro e w2 ⟨rfl, hb4⟩
          replace hb4 := ((Below.refl wr.heap.size wr).alloc (Nat.le_refl _) _).trans (hb4.mono (by show _ ≤ (wr.heap.push _).size; rw [Array.size_push]; omega))
          go_wp2_with fail
          go_roundw
          case rel => exact ⟨j + 1, HLT.out, by go_num, rfl, hbl.trans (hb4.mono hbl.size)⟩
          case measure => have := HLT.out; simp [intOf]; omega
        · obtain rfl : j = ks.length := by omega
          have hw : (1 + (T.sizeAll (ks.take ks.length) : Nat) : Int) = ((T.mk k s ks).size : Nat) := by rw [List.take_length]; simp [T.size]
          have HW := Lib.hid hw; clear hw
          go_wp2_with fail
          go_ret
          exact ⟨ret_i64 HW.out, hb1.trans (hbl.mono hb1.size)⟩
end Go.Proofs.YtihbmgkbipeakaaGreat
