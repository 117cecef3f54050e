/- Several texts in one: Util, Term, TermSize, TermName, TermCmp, TermOrd. -/
import Derived.WalkKit
import Derived.WalkSpells
import Derived.WalkLawsBesides
import Derived.Lib.Hide
import Derived.Lib.BufferRead
import Derived.Laws.OwnMore
import Derived.Laws.IdiomStrings
import Derived.Lib.Strings
import Derived.Lib.IndexBytes
import Derived.BigQuiet
import Derived.Deep.QuietTactic
import Derived.Deep.OwnRows
import Derived.BigRegion
import Derived.Test.YtihbmgkbipeakaaGreatRows
import Derived.ProofKit
import Derived.OpenShut
import Derived.Maps.Range
import Derived.Deep.Slices
import Derived.Deep.Fields
import Derived.ChangeSame
import Derived.ChangeArms
import Derived.IntWalk
import Derived.Deep.RegionWith
import Derived.Deep.Cut
import Derived.StillTailTactics
namespace Go.Proofs.YtihbmgkbipeakaaGreat
open Go.RowKit

theorem ret_i64 {a b : Int} (h : a = b) : Ending.returned (.int .i64 a) = .returned (.int .i64 b) := by rw [h]
theorem ret_bool {a b : Bool} (h : a = b) : Ending.returned (.bool a) = .returned (.bool b) := by rw [h]
theorem ret_str {a b : ByteArray} (h : a = b) : Ending.returned (.string a) = .returned (.string b) := by rw [h]
theorem quiet_any {P : Program} {f : FuncId} {args : Array Value} {w wq : World} {v : Value} (h : Calls P f args wq fun e w' => e = .returned v ∧ wq = w') (hq : ∃ m, wq = w.drewN m := by exact ⟨_, rfl⟩) :
    Calls P f args wq fun e w'' => e = .returned v ∧ ∃ m, w'' = w.drewN m := h.mono fun _ _ ⟨he, hm⟩ => ⟨he, by obtain ⟨m, hm'⟩ := hq; exact ⟨m, by rw [← hm]; exact hm'⟩⟩
theorem below_drewN {B : Nat} {a w : World} (h : Below B a w) (n : Nat) : Below B a (w.drewN n) := ⟨h.os, h.tape, h.output, h.size, h.block⟩
theorem str_add (a b : List UInt8) : (⟨a.toArray⟩ : ByteArray) ++ (⟨b.toArray⟩ : ByteArray) = ⟨(a ++ b).toArray⟩ := by
  apply ByteArray.ext; simp
theorem str_of (s : ByteArray) : s = ⟨s.data.toList.toArray⟩ := by apply ByteArray.ext; simp
theorem str_size (l : List UInt8) : (⟨l.toArray⟩ : ByteArray).size = l.length := by show l.toArray.size = _; simp

theorem str_eq {a b : ByteArray} (h : a.data.toList = b.data.toList) : a = b := by apply ByteArray.ext; exact Array.toList_inj.1 h
/-- A byte out of a number. -/
def b8 (n : Int) : UInt8 := UInt8.ofNat n.toNat
/-- Block g begins with these bytes, and they may be written. -/
def BytesAt (w : World) (g : Nat) (l : List UInt8) : Prop := ∀ i (h : i < l.length), w.cell? ⟨g, i, none⟩ = some (.int .u8 (l[i].toNat : Int)) ∧ w.frozen? ⟨g, i, none⟩ = false
theorem BytesAt.drewN {w : World} {g : Nat} {l : List UInt8} (h : BytesAt w g l) (n : Nat) : BytesAt (w.drewN n) g l := h
end Go.Proofs.YtihbmgkbipeakaaGreat

namespace Go.Proofs.YtihbmgkbipeakaaGreat
open Go.RowKit Go.ChangeShapes Go.WideShapes Go.Deep

inductive T where
  | mk : Int → ByteArray → List T → T
namespace T
def kind : T → Int | mk k _ _ => k
def name : T → ByteArray | mk _ s _ => s
def kids : T → List T | mk _ _ ks => ks
end T
/-- A term, as a value, in a world. -/
inductive TermAt (w : World) : Value → T → Prop
  | mk (k : Int) (s : ByteArray) (A : Option Addr) (cap : Nat) (ks : List T) (U : Nat → Value × Value × Value) (hk : -9223372036854775808 ≤ k ∧ k ≤ 9223372036854775807) (hs : s.size ≤ maxLen) (hc : ks.length ≤ cap) (hm : cap ≤ maxLen)
      (hA : ks.length = 0 ∨ ∃ b off, A = some ⟨b, off, none⟩ ∧ ∀ i, i < ks.length → w.cell? ⟨b, off + i * 3, none⟩ = some (U i).1 ∧ w.cell? ⟨b, off + i * 3 + 1, none⟩ = some (U i).2.1 ∧ w.cell? ⟨b, off + i * 3 + 2, none⟩ = some (U i).2.2)
      (hU : ∀ i (h : i < ks.length), TermAt w (.agg #[(U i).1, (U i).2.1, (U i).2.2]) ks[i]) : TermAt w (.agg #[.int .i64 k, .string s, .slice A ks.length cap]) (.mk k s ks)
theorem TermAt.keep {w w' : World} {v : Value} {t : T} (h : TermAt w v t) (hk : ∀ p : Addr, (w.cell? p).isSome = true → w'.cell? p = w.cell? p) : TermAt w' v t := by
  induction h with
  | mk k s A cap ks U h1 h2 h3 h4 hA _ ih =>
    refine .mk k s A cap ks U h1 h2 h3 h4 ?_ ih
    rcases hA with hA | ⟨b, off, e, hc⟩
    · exact .inl hA
    · refine .inr ⟨b, off, e, fun i hi => ?_⟩
      obtain ⟨c0, c1, c2⟩ := hc i hi
      exact ⟨(hk _ (by rw [c0]; rfl)).trans c0, (hk _ (by rw [c1]; rfl)).trans c1, (hk _ (by rw [c2]; rfl)).trans c2⟩
theorem TermAt.later {w w' : World} {v : Value} {t : T} (h : TermAt w v t) (hb : Below w.heap.size w w') : TermAt w' v t := by
  refine h.keep fun p hp => ?_
  obtain ⟨v, hv⟩ := Option.isSome_iff_exists.1 hp
  rw [hv]; exact cell_later hb hv

theorem cells24 : Tryz.prog.cellsOf 29 = 3 := by kernel_rfl
theorem cells3 : Tryz.prog.cellsOf 3 = 1 := by kernel_rfl
theorem cells9 : Tryz.prog.cellsOf 9 = 1 := by kernel_rfl
theorem cells22 : Tryz.prog.cellsOf 27 = 1 := by kernel_rfl

mutual
/-- How many values and letters a term holds. -/
def T.bulk : T → Nat
  | .mk _ s ks => s.size + 4 + T.bulkAll ks
def T.bulkAll : List T → Nat
  | [] => 0
  | t :: r => T.bulk t + T.bulkAll r
end
theorem bulkAll_range {H : Type} (D : Nat → DataW H) (ts : List T) : ∀ n : Nat, ts.length = n → (∀ i (h : i < ts.length), ts[i].bulk ≤ Rows.uptoBulk (D i)) → T.bulkAll ts ≤ Rows.uptoBulkAll ((List.range n).map D) := by
  induction ts generalizing D with
  | nil => intro n hn _; simp [T.bulkAll]
  | cons t r ih =>
    intro n hn h
    obtain ⟨m, rfl⟩ : ∃ m, n = m + 1 := ⟨n - 1, by simp at hn; omega⟩
    rw [List.range_succ_eq_map, List.map_cons, List.map_map]
    have h0 := h 0 (by simp)
    have h1 := ih (D ∘ Nat.succ) m (by simpa using hn) (fun i hi => h (i + 1) (by simpa using hi))
    simp only [T.bulkAll, Rows.uptoBulkAll]
    simp only [List.getElem_cons_zero] at h0
    exact Nat.add_le_add h0 h1

set_option maxRecDepth 100000 in
theorem open_cells {H : Type} {enc : TypeId × Value → H} {w : World} : ∀ (N : Nat) (fuel : Nat) (cs : List Value) (d : DataW H) (p : List MemPlace), SizeOf.sizeOf d < N →
    DataW.trod enc Tryz.prog w 0 (fun _ => true) true fuel 29 cs = some (d, p) → ∃ t, TermAt w (.agg cs.toArray) t ∧ t.bulk ≤ Rows.uptoBulk d := by
  intro N
  induction N with
  | zero => intro fuel cs d p h; omega
  | succ N ih =>
    intro fuel cs d p hN h
    obtain ⟨xs, n, rfl, hx, hcl, hxl, hg⟩ := DataW.trod_struct Tryz.underlying29 h
    rw [cells24] at hcl
    match cs, hcl with
    | [c0, c1, c2], _ =>
      match xs, hxl with
      | [y0, y1, y2], _ =>
        have g0 := hg 0 _ rfl
        have g1 := hg 1 _ rfl
        have g2 := hg 2 _ rfl
        simp [cells3, cells9, cells22] at g0 g1 g2
        obtain ⟨k, e0, hy0, wk⟩ := DataW.trod_int Tryz.underlying3 g0
        obtain ⟨s, e1, hy1, hs⟩ := DataW.trod_string Tryz.underlying9 g1
        simp at e0 e1
        subst e0; subst e1
        have bk := bounds_i64 wk
        rw [Prod.mk.injEq] at hx
        obtain ⟨rfl, -⟩ := hx
        rcases open_slice Tryz.underlying27 g2 with ⟨e2, hy2⟩ | ⟨a, len, cap, m, n', D, Pl, e2, hb, hl, hm, hmm, hy2, hi⟩
        · simp at e2
          subst e2
          refine ⟨.mk k s [], .mk k s none 0 [] (fun _ => (undef, undef, undef)) bk hs (Nat.le_refl _) (Nat.zero_le _) (.inl rfl) (fun i h => by simp at h), ?_⟩
          rw [hy0, hy1, hy2]
          simp [T.bulk, T.bulkAll, Rows.uptoBulk, Rows.uptoBulkAll]
          omega
        · simp at e2
          subst e2
          simp only [if_true] at hmm
          subst hmm
          have hsz : ∀ i, i < len → SizeOf.sizeOf (D i) < N := fun i h => by
            have h1 : D i ∈ (List.range len).map D := List.mem_map.2 ⟨i, List.mem_range.2 h, rfl⟩
            have h2 := List.sizeOf_lt_of_mem h1
            rw [hy0, hy1, hy2] at hN
            simp at hN
            omega
          have hK : ∀ i, i < len → ∃ x : T × Value × Value × Value, TermAt w (.agg #[x.2.1, x.2.2.1, x.2.2.2]) x.1 ∧ x.1.bulk ≤ Rows.uptoBulk (D i) ∧
              w.cell? (a.add (i * 3)) = some x.2.1 ∧ w.cell? ((a.add (i * 3)).add 1) = some x.2.2.1 ∧ w.cell? ((a.add (i * 3)).add 2) = some x.2.2.2 := fun i h => by
            obtain ⟨cs', hc, ht⟩ := hi i (by omega)
            rw [cells24] at hc
            obtain ⟨_, hcl', hat⟩ := World.cells?_some hc
            obtain ⟨t, ht1, ht2⟩ := ih n' cs' (D i) (Pl i) (hsz i h) ht
            match cs', hcl' with
            | [u0, u1, u2], _ =>
              have q0 := hat 0 (by omega); have q1 := hat 1 (by omega); have q2 := hat 2 (by omega)
              rw [Go.Deep.add_add] at q0
              exact ⟨(t, u0, u1, u2), ht1, ht2, by simpa using q0, by simpa using q1, by simpa using q2⟩
          have : Inhabited (T × Value × Value × Value) := ⟨(.mk 0 ⟨#[]⟩ [], undef, undef, undef)⟩
          obtain ⟨F, hF⟩ := choose_lt hK
          have hlen : ((List.range len).map fun i => (F i).1).length = len := by simp
          refine ⟨.mk k s ((List.range len).map fun i => (F i).1), ?_, ?_⟩
          · have hA : len = 0 ∨ ∃ b off, a = ⟨b, off, none⟩ := by
              rcases Nat.eq_zero_or_pos len with h0 | h0
              · exact .inl h0
              · obtain ⟨_, _, c0, _⟩ := hF 0 h0
                obtain ⟨b, off, spot⟩ := a
                have hspot : spot = none := by simpa [Addr.add] using World.cell?_spot c0
                subst hspot; exact .inr ⟨b, off, rfl⟩
            have := TermAt.mk (w := w) k s (some a) _ ((List.range len).map fun i => (F i).1) (fun i => (F i).2) bk hs (by rw [hlen]; exact hl) hm
              (by
                rcases hA with h0 | ⟨b, off, rfl⟩
                · left; rw [hlen]; exact h0
                · refine .inr ⟨b, off, rfl, fun i h => ?_⟩
                  rw [hlen] at h
                  obtain ⟨_, _, c0, c1, c2⟩ := hF i h
                  simp only [Go.WideShapes.add_plain] at c0 c1 c2
                  exact ⟨c0, c1, c2⟩)
              (fun i h => by
                rw [hlen] at h
                have := (hF i h).1
                simpa using this)
            rw [hlen] at this
            exact this
          · rw [hy0, hy1, hy2]
            have hb := bulkAll_range D ((List.range len).map fun i => (F i).1) len hlen (fun i h => by rw [hlen] at h; simpa using (hF i h).2.1)
            simp only [T.bulk, Rows.uptoBulk, Rows.uptoBulkAll, List.map_cons, List.map_nil]
            simp
            omega
end Go.Proofs.YtihbmgkbipeakaaGreat

namespace Go.Proofs.YtihbmgkbipeakaaGreat
open Go.RowKit

namespace T
mutual
def size : T → Nat
  | .mk _ _ ks => 1 + sizeAll ks
def sizeAll : List T → Nat
  | [] => 0
  | t :: r => size t + sizeAll r
end
mutual
theorem size_le : ∀ t : T, t.size ≤ t.bulk
  | .mk _ s ks => by have := sizeAll_le ks; simp only [size, bulk]; omega
theorem sizeAll_le : ∀ l : List T, sizeAll l ≤ bulkAll l
  | [] => by simp [sizeAll, bulkAll]
  | t :: r => by have := size_le t; have := sizeAll_le r; simp only [sizeAll, bulkAll]; omega
end
theorem bulk_at (l : List T) : ∀ (i : Nat) (h : i < l.length), l[i].bulk ≤ bulkAll l := by
  induction l with
  | nil => intro i h; simp at h
  | cons t r ih =>
    intro i h
    cases i with
    | zero => simp only [List.getElem_cons_zero, bulkAll]; omega
    | succ i => have := ih i (by simpa using h); simp only [List.getElem_cons_succ, bulkAll]; omega
theorem sizeAll_take (l : List T) : ∀ (i : Nat) (h : i < l.length), sizeAll (l.take (i + 1)) = sizeAll (l.take i) + l[i].size := by
  induction l with
  | nil => intro i h; simp at h
  | cons t r ih =>
    intro i h
    cases i with
    | zero => simp [sizeAll]
    | succ i => have := ih i (by simpa using h); simp only [List.take_succ_cons, sizeAll, List.getElem_cons_succ, this]; omega
theorem bulkAll_take (l : List T) : ∀ i, bulkAll (l.take i) ≤ bulkAll l := by
  induction l with
  | nil => intro i; simp
  | cons t r ih =>
    intro i
    cases i with
    | zero => simp [bulkAll]
    | succ i => have := ih i; simp only [List.take_succ_cons, bulkAll]; omega
theorem bulk_pos (t : T) : 4 ≤ t.bulk := by cases t; simp only [bulk]; omega
theorem len_le : ∀ l : List T, 4 * l.length ≤ bulkAll l
  | [] => by simp [bulkAll]
  | t :: r => by have := bulk_pos t; have := len_le r; simp only [bulkAll, List.length_cons]; omega
end T
theorem TermAt.view {w : World} {a b c : Value} {t : T} (h : TermAt w (.agg #[a, b, c]) t) : a = .int .i64 t.kind ∧ b = .string t.name ∧ ∃ A cap, c = .slice A t.kids.length cap := by
  cases h
  exact ⟨rfl, rfl, _, _, rfl⟩
/-- A term in a box. -/
def Boxed (w : World) (g : Nat) (a b c : Value) : Prop := w.cell? ⟨g, 0, none⟩ = some a ∧ w.cell? ⟨g, 1, none⟩ = some b ∧ w.cell? ⟨g, 2, none⟩ = some c
theorem Boxed.later {w w' : World} {g : Nat} {a b c : Value} (h : Boxed w g a b c) (hb : Below w.heap.size w w') : Boxed w' g a b c :=
  ⟨cell_later hb h.1, cell_later hb h.2.1, cell_later hb h.2.2⟩
theorem boxed_new (w : World) (a b c : Value) (t : TypeId) : Boxed (w.alloc (.cells #[a, b, c] t)) w.heap.size a b c := by
  have := heap_alloc_new w (.cells #[a, b, c] t)
  refine ⟨?_, ?_, ?_⟩
  · exact cell_of_row _ _ 0 _ _ _ this
  · exact cell_of_row _ _ 1 _ _ _ this
  · exact cell_of_row _ _ 2 _ _ _ this

set_option maxRecDepth 100000 in
set_option maxHeartbeats 1000000 in
theorem rsize : ∀ (N : Nat) (t : T) (v : Value) (w : World), t.bulk < N → TermAt w v t → t.bulk ≤ 1048576 →
    Calls Tryz.prog 26 #[v] w fun e w' => e = .returned (.int .i64 t.size) ∧ Below w.heap.size w w' := by
  intro N
  induction N with
  | zero => intro t v w h; omega
  | succ N ih =>
    intro t v w hN ht hbk
    cases ht with
    | mk k s A cap ks U h1 h2 h3 h4 hA hU =>
      simp only [T.bulk] at hN hbk
      have hbx := boxed_new w (.int .i64 k) (.string s) (.slice A ks.length cap) 29
      have hb1 := (Below.refl w.heap.size w).alloc (Nat.le_refl _) (.cells #[.int .i64 k, .string s, .slice A ks.length cap] 29)
      go_enter Tryz.func26, Tryz.ntmps26
      go_wp2_with fail
      have hsz : w.heap.size < (w.alloc (.cells #[.int .i64 k, .string s, .slice A ks.length cap] 29)).heap.size := by show _ < (w.heap.push _).size; rw [Array.size_push]; omega
      generalize w.alloc (.cells #[.int .i64 k, .string s, .slice A ks.length cap] 29) = w1 at hbx hb1 hsz ⊢
      have hkl : T.bulkAll ks ≤ 1048576 := by omega
      have hkn : ks.length ≤ 1048576 := by have := T.len_le ks; omega
      have hsl := T.sizeAll_le ks
      go_loopw [3, 4] (fun sm i wr => ∃ j : Nat, j ≤ ks.length ∧ i = .int .i64 j ∧ sm = .int .i64 (1 + (T.sizeAll (ks.take j) : Nat)) ∧ Below w1.heap.size w1 wr) (fun _ i _ => ks.length - (intOf i).toNat)
      case atStart => exact ⟨0, Nat.zero_le _, rfl, by simp [T.sizeAll], Below.refl _ _⟩
      case round =>
        obtain ⟨j, hj, rfl, rfl, hbl⟩ := hrel
        obtain ⟨x0, x1, x2⟩ := hbx.later hbl
        by_cases hlt : j < ks.length
        · rcases hA with hA | ⟨b, off, rfl, hcell⟩
          · omega
          obtain ⟨d0, d1, d2⟩ := hcell j hlt
          have hu := hU j hlt
          have hbw := hb1.trans (hbl.mono hb1.size)
          have e0 := cell_later hbw d0; have e1 := cell_later hbw d1; have e2 := cell_later hbw d2
          clear d0 d1 d2
          generalize (U j).1 = u0 at *
          generalize (U j).2.1 = u1 at *
          generalize (U j).2.2 = u2 at *
          have hlt' : (j : Int) < (ks.length : Int) := by omega
          have hkb := T.bulk_at ks j hlt
          have hst := T.sizeAll_take ks j hlt
          have hszj := T.sizeAll_le (ks.take (j + 1))
          have hbj := T.bulkAll_take ks (j + 1)
          have q1 : IntKind.i64.wrap (1 + (T.sizeAll (ks.take j) : Nat) + (ks[j].size : Nat)) = 1 + (T.sizeAll (ks.take (j + 1)) : Nat) := by rw [hst, IntWalk.i64_in _ (by omega)]; push_cast; omega
          have hb2 : ks[j].bulk < N := by omega
          have hb3 : ks[j].bulk ≤ 1048576 := by omega
          have hu' := hu.later hbw
          have HB := Lib.hid hst
          have HLT := Lib.hid hlt
          clear hst hszj hbj hkb
          go_wp2_with fail
          refine (ih _ _ _ hb2 hu' hb3).mono ?_; rintro e w2 ⟨rfl, hb4⟩
          go_wp2_with fail
          go_roundw
          case rel => exact ⟨j + 1, HLT.out, by go_num, rfl, hbl.trans (hb4.mono hbl.size)⟩
          case measure => have := HLT.out; simp [intOf]; omega
        · obtain rfl : j = ks.length := by omega
          have hw : (1 + (T.sizeAll (ks.take ks.length) : Nat) : Int) = ((T.mk k s ks).size : Nat) := by rw [List.take_length]; simp [T.size]
          have HW := Lib.hid hw; clear hw
          go_wp2_with fail
          go_ret
          exact ⟨ret_i64 HW.out, hb1.trans (hbl.mono hb1.size)⟩
set_option maxRecDepth 100000 in
set_option maxHeartbeats 1000000 in
theorem osize : ∀ (N : Nat) (t : T) (v : Value) (w : World), t.bulk < N → TermAt w v t → t.bulk ≤ 1048576 →
    Calls Tryz.prog 115 #[v] w fun e w' => e = .returned (.int .i64 t.size) ∧ Below w.heap.size w w' := by
  intro N
  induction N with
  | zero => intro t v w h; omega
  | succ N ih =>
    intro t v w hN ht hbk
    cases ht with
    | mk k s A cap ks U h1 h2 h3 h4 hA hU =>
      simp only [T.bulk] at hN hbk
      have hbx := boxed_new w (.int .i64 k) (.string s) (.slice A ks.length cap) 29
      have hb1 := (Below.refl w.heap.size w).alloc (Nat.le_refl _) (.cells #[.int .i64 k, .string s, .slice A ks.length cap] 29)
      go_enter Tryz.func115, Tryz.ntmps115
      go_wp2_with fail
      have hsz : w.heap.size < (w.alloc (.cells #[.int .i64 k, .string s, .slice A ks.length cap] 29)).heap.size := by show _ < (w.heap.push _).size; rw [Array.size_push]; omega
      generalize w.alloc (.cells #[.int .i64 k, .string s, .slice A ks.length cap] 29) = w1 at hbx hb1 hsz ⊢
      have hkl : T.bulkAll ks ≤ 1048576 := by omega
      have hkn : ks.length ≤ 1048576 := by have := T.len_le ks; omega
      have hsl := T.sizeAll_le ks
      go_loopw [3, 9] (fun sm i wr => ∃ j : Nat, j ≤ ks.length ∧ i = .int .i64 j ∧ sm = .int .i64 (1 + (T.sizeAll (ks.take j) : Nat)) ∧ Below w1.heap.size w1 wr) (fun _ i _ => ks.length - (intOf i).toNat)
      case atStart => exact ⟨0, Nat.zero_le _, rfl, by simp [T.sizeAll], Below.refl _ _⟩
      case round =>
        obtain ⟨j, hj, rfl, rfl, hbl⟩ := hrel
        obtain ⟨x0, x1, x2⟩ := hbx.later hbl
        by_cases hlt : j < ks.length
        · rcases hA with hA | ⟨b, off, rfl, hcell⟩
          · omega
          obtain ⟨d0, d1, d2⟩ := hcell j hlt
          have hu := hU j hlt
          have hbw := hb1.trans (hbl.mono hb1.size)
          have e0 := cell_later hbw d0; have e1 := cell_later hbw d1; have e2 := cell_later hbw d2
          clear d0 d1 d2
          generalize (U j).1 = u0 at *
          generalize (U j).2.1 = u1 at *
          generalize (U j).2.2 = u2 at *
          obtain ⟨rfl, rfl, A', cap', rfl⟩ := hu.view
          have hlt' : (j : Int) < (ks.length : Int) := by omega
          have hkb := T.bulk_at ks j hlt
          have hst := T.sizeAll_take ks j hlt
          have hszj := T.sizeAll_le (ks.take (j + 1))
          have hbj := T.bulkAll_take ks (j + 1)
          have q1 : IntKind.i64.wrap (1 + (T.sizeAll (ks.take j) : Nat) + (ks[j].size : Nat)) = 1 + (T.sizeAll (ks.take (j + 1)) : Nat) := by rw [hst, IntWalk.i64_in _ (by omega)]; push_cast; omega
          have hb2 : ks[j].bulk < N := by omega
          have hb3 : ks[j].bulk ≤ 1048576 := by omega
          have hu' := hu.later hbw
          have HB := Lib.hid hst
          have HLT := Lib.hid hlt
          clear hst hszj hbj hkb
          go_wp2_with fail
          refine (ih _ _ _ hb2 (hu'.later ((Below.refl wr.heap.size wr).alloc (Nat.le_refl _) _)) hb3).mono ?_; rintro e w2 ⟨rfl, hb4⟩
          replace hb4 := ((Below.refl wr.heap.size wr).alloc (Nat.le_refl _) _).trans (hb4.mono (by show _ ≤ (wr.heap.push _).size; rw [Array.size_push]; omega))
          go_wp2_with fail
          go_roundw
          case rel => exact ⟨j + 1, HLT.out, by go_num, rfl, hbl.trans (hb4.mono hbl.size)⟩
          case measure => have := HLT.out; simp [intOf]; omega
        · obtain rfl : j = ks.length := by omega
          have hw : (1 + (T.sizeAll (ks.take ks.length) : Nat) : Int) = ((T.mk k s ks).size : Nat) := by rw [List.take_length]; simp [T.size]
          have HW := Lib.hid hw; clear hw
          go_wp2_with fail
          go_ret
          exact ⟨ret_i64 HW.out, hb1.trans (hbl.mono hb1.size)⟩
end Go.Proofs.YtihbmgkbipeakaaGreat

namespace Go.Proofs.YtihbmgkbipeakaaGreat
open Go.RowKit

theorem u8_le (b : UInt8) : 0 ≤ (b.toNat : Int) ∧ (b.toNat : Int) ≤ 255 := by have := b.toNat_lt; omega
namespace T
def low (c : UInt8) : Bool := decide (97 ≤ (c.toNat : Int)) && decide ((c.toNat : Int) ≤ 122)
def dig (c : UInt8) : Bool := decide (48 ≤ (c.toNat : Int)) && decide ((c.toNat : Int) ≤ 57)
/-- May the k-th byte of a name stand there. -/
def nmAt (l : List UInt8) (k : Nat) : Bool := low (l.getD k 0) || (decide (0 < k) && dig (l.getD k 0))
def nmAll (l : List UInt8) : Bool := (List.range l.length).all (nmAt l)
def isName (s : ByteArray) : Bool := nmAll s.data.toList && (decide (1 ≤ s.size) && decide (s.size ≤ 16))
theorem nmAll_no {l : List UInt8} {k : Nat} (hk : k < l.length) (h : nmAt l k = false) : nmAll l = false := by
  rw [Bool.eq_false_iff]; intro hh
  have := List.all_eq_true.1 hh k (List.mem_range.2 hk)
  rw [h] at this; cases this
theorem nmAll_yes {l : List UInt8} (h : ∀ k, k < l.length → nmAt l k = true) : nmAll l = true :=
  List.all_eq_true.2 fun k hk => h k (List.mem_range.1 hk)
theorem getD_at (s : ByteArray) (k : Nat) (hk : k < s.size) : s.data.toList.getD k 0 = s[k] := by
  have h : k < s.data.toList.length := by simpa using hk
  simp only [List.getD, List.getElem?_eq_getElem h, Option.getD_some]; rfl
theorem size_len (s : ByteArray) : s.data.toList.length = s.size := by simp
end T

theorem tletter (n : Int) (w : World) (h0 : 0 ≤ n) (h1 : n ≤ 255) (b : Bool) (hb : (decide (97 ≤ n) && decide (n ≤ 122)) = b) :
    Calls Tryz.prog 104 #[.int .u8 n] w fun e w' => e = .returned (.bool b) ∧ w = w' := by
  have hc : (97 ≤ n ∧ n ≤ 122 ∧ b = true) ∨ (97 ≤ n ∧ 122 < n ∧ b = false) ∨ (n < 97 ∧ b = false) := by
    subst hb; simp; omega
  clear hb
  rcases hc with ⟨c1, c2, rfl⟩ | ⟨c1, c2, rfl⟩ | ⟨c1, rfl⟩
  all_goals
    go_enter Tryz.func104, Tryz.ntmps104
    go_wp2
    go_ret
    exact ⟨ret_bool (by first | rfl | (simp; omega)), rfl⟩
theorem tdigit (n : Int) (w : World) (h0 : 0 ≤ n) (h1 : n ≤ 255) (b : Bool) (hb : (decide (48 ≤ n) && decide (n ≤ 57)) = b) :
    Calls Tryz.prog 105 #[.int .u8 n] w fun e w' => e = .returned (.bool b) ∧ w = w' := by
  have hc : (48 ≤ n ∧ n ≤ 57 ∧ b = true) ∨ (48 ≤ n ∧ 57 < n ∧ b = false) ∨ (n < 48 ∧ b = false) := by
    subst hb; simp; omega
  clear hb
  rcases hc with ⟨c1, c2, rfl⟩ | ⟨c1, c2, rfl⟩ | ⟨c1, rfl⟩
  all_goals
    go_enter Tryz.func105, Tryz.ntmps105
    go_wp2
    go_ret
    exact ⟨ret_bool (by first | rfl | (simp; omega)), rfl⟩
theorem rletter (n : Int) (w : World) (h0 : 0 ≤ n) (h1 : n ≤ 255) (b : Bool) (hb : (decide (97 ≤ n) && decide (n ≤ 122)) = b) :
    Calls Tryz.prog 112 #[.int .u8 n] w fun e w' => e = .returned (.bool b) ∧ w = w' := by
  have hc : (97 ≤ n ∧ n ≤ 122 ∧ b = true) ∨ (97 ≤ n ∧ 122 < n ∧ b = false) ∨ (n < 97 ∧ b = false) := by
    subst hb; simp; omega
  clear hb
  rcases hc with ⟨c1, c2, rfl⟩ | ⟨c1, c2, rfl⟩ | ⟨c1, rfl⟩
  all_goals
    go_enter Tryz.func112, Tryz.ntmps112
    go_wp2
    go_ret
    exact ⟨ret_bool (by first | rfl | (simp; omega)), rfl⟩

theorem T.name_end (s : ByteArray) (h : T.nmAll s.data.toList = true) : (1 ≤ (s.size : Int) ∧ (s.size : Int) ≤ 16 ∧ T.isName s = true) ∨ (1 ≤ (s.size : Int) ∧ 16 < (s.size : Int) ∧ T.isName s = false) ∨ ((s.size : Int) < 1 ∧ T.isName s = false) := by
  unfold T.isName; rw [h]; simp; omega
theorem T.name_no (s : ByteArray) (h : T.nmAll s.data.toList = false) : T.isName s = false := by unfold T.isName; rw [h]; rfl
theorem T.name_kinds (s : ByteArray) (k : Nat) (hk : k < s.size) :
    (T.low s[k] = true ∧ T.nmAt s.data.toList k = true) ∨ (T.low s[k] = false ∧ k = 0 ∧ T.nmAt s.data.toList k = false) ∨
    (T.low s[k] = false ∧ ((k : Int) == 0) = false ∧ T.dig s[k] = true ∧ T.nmAt s.data.toList k = true) ∨ (T.low s[k] = false ∧ ((k : Int) == 0) = false ∧ T.dig s[k] = false ∧ T.nmAt s.data.toList k = false) := by
  have hg := T.getD_at s k hk
  unfold T.nmAt; rw [hg]
  rcases Bool.eq_false_or_eq_true (T.low s[k]) with h1 | h1
  · left; rw [h1]; simp
  · rcases Nat.eq_zero_or_pos k with h0 | h0
    · subst h0; right; left; rw [h1]; simp
    · have e : ((k : Int) == 0) = false := by rw [beq_eq_false_iff_ne]; omega
      rcases Bool.eq_false_or_eq_true (T.dig s[k]) with h2 | h2
      · right; right; left; rw [h1, h2]; simp [h0]; omega
      · right; right; right; rw [h1, h2]; simp; omega

set_option maxHeartbeats 1000000 in
theorem oname (s : ByteArray) (w : World) (hs : s.size ≤ maxLen) :
    Calls Tryz.prog 58 #[.string s] w fun e w' => e = .returned (.bool (T.isName s)) ∧ w = w' := by
  unfold maxLen at hs
  go_enter Tryz.func58, Tryz.ntmps58
  go_wp2_with fail
  go_loop [6] (fun i => ∃ k : Nat, k ≤ s.size ∧ i = .int .i64 k ∧ ∀ j, j < k → T.nmAt s.data.toList j = true) (fun i => s.size - (intOf i).toNat)
  case atStart => exact ⟨0, Nat.zero_le _, rfl, fun j hj => absurd hj (by omega)⟩
  case round =>
    obtain ⟨k, hk, rfl, hv⟩ := hrel
    have HV := Lib.hid hv; clear hv
    by_cases hlt : k < s.size
    · have hb := u8_le s[k]
      have hlen : k < s.data.toList.length := by simpa using hlt
      have next : T.nmAt s.data.toList k = true → ∀ j, j < k + 1 → T.nmAt s.data.toList j = true := fun h j hj => by
        rcases Nat.lt_or_ge j k with g | g
        · exact HV.out j g
        · obtain rfl : j = k := by omega
          exact h
      have NX := Lib.hid next; clear next
      rcases T.name_kinds s k hlt with ⟨g1, g2⟩ | ⟨g1, rfl, g2⟩ | ⟨g1, e0, g3, g2⟩ | ⟨g1, e0, g3, g2⟩
      · have G1 := Lib.hid g1; have G2 := Lib.hid (NX.out g2); clear g1 g2
        go_wp2_with (go_at_call 104; refine (tletter _ _ hb.1 hb.2 true G1.out).mono ?_; rintro e w' ⟨rfl, rfl⟩)
        go_round
        case rel => exact ⟨k + 1, by omega, by go_num, G2.out⟩
        case measure => simp [intOf]; omega
      · have G1 := Lib.hid g1; have G2 := Lib.hid (T.name_no s (T.nmAll_no hlen g2)); clear g1 g2
        go_wp2_with (go_at_call 104; refine (tletter _ _ hb.1 hb.2 false G1.out).mono ?_; rintro e w' ⟨rfl, rfl⟩)
        go_ret
        exact ⟨ret_bool G2.out.symm, rfl⟩
      · have G1 := Lib.hid g1; have G3 := Lib.hid g3; have G2 := Lib.hid (NX.out g2); clear g1 g2 g3
        go_wp2_with (first | (go_at_call 104; refine (tletter _ _ hb.1 hb.2 false G1.out).mono ?_; rintro e w' ⟨rfl, rfl⟩) | (go_at_call 105; refine (tdigit _ _ hb.1 hb.2 true G3.out).mono ?_; rintro e w' ⟨rfl, rfl⟩))
        go_round
        case rel => exact ⟨k + 1, by omega, by go_num, G2.out⟩
        case measure => simp [intOf]; omega
      · have G1 := Lib.hid g1; have G3 := Lib.hid g3; have G2 := Lib.hid (T.name_no s (T.nmAll_no hlen g2)); clear g1 g2 g3
        go_wp2_with (first | (go_at_call 104; refine (tletter _ _ hb.1 hb.2 false G1.out).mono ?_; rintro e w' ⟨rfl, rfl⟩) | (go_at_call 105; refine (tdigit _ _ hb.1 hb.2 false G3.out).mono ?_; rintro e w' ⟨rfl, rfl⟩))
        go_ret
        exact ⟨ret_bool G2.out.symm, rfl⟩
    · obtain rfl : k = s.size := by omega
      have e : T.nmAll s.data.toList = true := T.nmAll_yes fun k hk => HV.out k (by simpa using hk)
      rcases T.name_end s e with ⟨a, b, c⟩ | ⟨a, b, c⟩ | ⟨a, c⟩
      all_goals
        have C := Lib.hid c; clear c e
        go_wp2_with fail
        go_ret
        exact ⟨ret_bool (by first | (rw [C.out]; done) | (rw [C.out]; simp; omega)), rfl⟩
set_option maxHeartbeats 1000000 in
theorem rname (s : ByteArray) (w : World) (hs : s.size ≤ maxLen) :
    Calls Tryz.prog 64 #[.string s] w fun e w' => e = .returned (.bool (T.isName s)) ∧ w = w' := by
  unfold maxLen at hs
  go_enter Tryz.func64, Tryz.ntmps64
  go_wp2_with fail
  go_loop [3] (fun i => ∃ k : Nat, k ≤ s.size ∧ i = .int .i64 k ∧ ∀ j, j < k → T.nmAt s.data.toList j = true) (fun i => s.size - (intOf i).toNat)
  case atStart => exact ⟨0, Nat.zero_le _, rfl, fun j hj => absurd hj (by omega)⟩
  case round =>
    obtain ⟨k, hk, rfl, hv⟩ := hrel
    have HV := Lib.hid hv; clear hv
    by_cases hlt : k < s.size
    · have hb := u8_le s[k]
      have hlen : k < s.data.toList.length := by simpa using hlt
      have next : T.nmAt s.data.toList k = true → ∀ j, j < k + 1 → T.nmAt s.data.toList j = true := fun h j hj => by
        rcases Nat.lt_or_ge j k with g | g
        · exact HV.out j g
        · obtain rfl : j = k := by omega
          exact h
      have NX := Lib.hid next; clear next
      have hdg : T.dig s[k] = (decide (48 ≤ (s[k].toNat : Int)) && decide ((s[k].toNat : Int) ≤ 57)) := rfl
      rcases T.name_kinds s k hlt with ⟨g1, g2⟩ | ⟨g1, rfl, g2⟩ | ⟨g1, e0, g3, g2⟩ | ⟨g1, e0, g3, g2⟩
      · have G1 := Lib.hid g1; have G2 := Lib.hid (NX.out g2); clear g1 g2
        go_wp2_with (go_at_call 112; refine (rletter _ _ hb.1 hb.2 true G1.out).mono ?_; rintro e w' ⟨rfl, rfl⟩)
        go_round
        case rel => exact ⟨k + 1, by omega, by go_num, G2.out⟩
        case measure => simp [intOf]; omega
      · have G1 := Lib.hid g1; have G2 := Lib.hid (T.name_no s (T.nmAll_no hlen g2)); clear g1 g2
        go_wp2_with (go_at_call 112; refine (rletter _ _ hb.1 hb.2 false G1.out).mono ?_; rintro e w' ⟨rfl, rfl⟩)
        go_ret
        exact ⟨ret_bool G2.out.symm, rfl⟩
      · have h48 : 48 ≤ (s[k].toNat : Int) ∧ (s[k].toNat : Int) ≤ 57 := by rw [hdg] at g3; simpa using g3
        have h48a := h48.1; have h48b := h48.2
        have G1 := Lib.hid g1; have G2 := Lib.hid (NX.out g2); clear g1 g2 g3 hdg h48
        go_wp2_with (go_at_call 112; refine (rletter _ _ hb.1 hb.2 false G1.out).mono ?_; rintro e w' ⟨rfl, rfl⟩)
        go_round
        case rel => exact ⟨k + 1, by omega, by go_num, G2.out⟩
        case measure => simp [intOf]; omega
      · have h48 : (s[k].toNat : Int) < 48 ∨ (48 ≤ (s[k].toNat : Int) ∧ 57 < (s[k].toNat : Int)) := by rw [hdg] at g3; simp at g3; omega
        have G1 := Lib.hid g1; have G2 := Lib.hid (T.name_no s (T.nmAll_no hlen g2)); clear g1 g2 g3 hdg
        rcases h48 with h48 | ⟨h48, h48b⟩
        all_goals
         go_wp2_with (go_at_call 112; refine (rletter _ _ hb.1 hb.2 false G1.out).mono ?_; rintro e w' ⟨rfl, rfl⟩)
         go_ret
         exact ⟨ret_bool G2.out.symm, rfl⟩
    · obtain rfl : k = s.size := by omega
      have e : T.nmAll s.data.toList = true := T.nmAll_yes fun k hk => HV.out k (by simpa using hk)
      rcases T.name_end s e with ⟨a, b, c⟩ | ⟨a, b, c⟩ | ⟨a, c⟩
      all_goals
        have C := Lib.hid c; clear c e
        go_wp2_with fail
        go_ret
        exact ⟨ret_bool (by first | (rw [C.out]; done) | (rw [C.out]; simp; omega)), rfl⟩
end Go.Proofs.YtihbmgkbipeakaaGreat

namespace Go.Proofs.YtihbmgkbipeakaaGreat
open Go.RowKit

namespace T
def less (a b : ByteArray) : Bool := Op.bytesLess a.toList b.toList
mutual
/-- The order of terms: below 0, 0, above 0. -/
def cmp : T → T → Int
  | .mk k s ks, .mk k' s' ks' => if k < k' then -1 else if k' < k then 1 else if less s s' = true then -1 else if (s.toList == s'.toList) = false then 1 else cmpAll ks ks'
def cmpAll : List T → List T → Int
  | [], [] => 0
  | [], _ :: _ => -1
  | _ :: _, [] => 1
  | a :: r, b :: r' => if cmp a b = 0 then cmpAll r r' else cmp a b
end
mutual
theorem cmp_vals : ∀ a b : T, cmp a b = -1 ∨ cmp a b = 0 ∨ cmp a b = 1
  | .mk k s ks, .mk k' s' ks' => by
    simp only [cmp]
    repeat' split
    all_goals first | simp | exact cmpAll_vals ks ks'
theorem cmpAll_vals : ∀ a b : List T, cmpAll a b = -1 ∨ cmpAll a b = 0 ∨ cmpAll a b = 1
  | [], [] => by simp [cmpAll]
  | [], _ :: _ => by simp [cmpAll]
  | _ :: _, [] => by simp [cmpAll]
  | a :: r, b :: r' => by
    simp only [cmpAll]
    split
    · exact cmpAll_vals r r'
    · exact cmp_vals a b
end
theorem cmpAll_at : ∀ (l m : List T) (i : Nat) (h : i < l.length) (h' : i < m.length), (∀ j (g : j < i), cmp l[j] m[j] = 0) → cmp l[i] m[i] ≠ 0 → cmpAll l m = cmp l[i] m[i] := by
  intro l
  induction l with
  | nil => intro m i h; simp at h
  | cons a r ih =>
    intro m i h h' hz hn
    cases m with
    | nil => simp at h'
    | cons b r' =>
      cases i with
      | zero => simp only [List.getElem_cons_zero] at hn ⊢; simp only [cmpAll]; rw [if_neg hn]
      | succ i =>
        have h0 := hz 0 (by omega)
        simp only [List.getElem_cons_zero] at h0
        simp only [cmpAll, List.getElem_cons_succ] at hn ⊢
        rw [if_pos h0]
        exact ih r' i (by simpa using h) (by simpa using h') (fun j g => by have := hz (j + 1) (by omega); simpa using this) hn
theorem cmpAll_len : ∀ (l m : List T), (∀ j (h : j < l.length) (h' : j < m.length), cmp l[j] m[j] = 0) → cmpAll l m = if l.length < m.length then -1 else if m.length < l.length then 1 else 0 := by
  intro l
  induction l with
  | nil => intro m _; cases m <;> simp [cmpAll]
  | cons a r ih =>
    intro m hz
    cases m with
    | nil => simp [cmpAll]
    | cons b r' =>
      have h0 := hz 0 (by simp) (by simp)
      simp only [List.getElem_cons_zero] at h0
      simp only [cmpAll, List.length_cons]
      rw [if_pos h0, ih r' (fun j h h' => by have := hz (j + 1) (by simpa using h) (by simpa using h'); simpa using this)]
      simp only [Nat.add_lt_add_iff_right]
end T

theorem TermAt.drew {w : World} {v : Value} {t : T} (h : TermAt w v t) : TermAt w.drew v t := h.keep fun _ _ => rfl
theorem TermAt.cells {w : World} {A : Option Addr} {ks : List T} {U : Nat → Value × Value × Value} {i : Nat} (h : i < ks.length)
    (hA : ks.length = 0 ∨ ∃ b off, A = some ⟨b, off, none⟩ ∧ ∀ i, i < ks.length → w.cell? ⟨b, off + i * 3, none⟩ = some (U i).1 ∧ w.cell? ⟨b, off + i * 3 + 1, none⟩ = some (U i).2.1 ∧ w.cell? ⟨b, off + i * 3 + 2, none⟩ = some (U i).2.2)
    (hU : ∀ i (h : i < ks.length), TermAt w (.agg #[(U i).1, (U i).2.1, (U i).2.2]) ks[i]) :
    ∃ b off A' cap', A = some ⟨b, off, none⟩ ∧ w.cell? ⟨b, off + i * 3, none⟩ = some (.int .i64 ks[i].kind) ∧ w.cell? ⟨b, off + i * 3 + 1, none⟩ = some (.string ks[i].name) ∧
      w.cell? ⟨b, off + i * 3 + 2, none⟩ = some (.slice A' ks[i].kids.length cap') ∧ TermAt w (.agg #[.int .i64 ks[i].kind, .string ks[i].name, .slice A' ks[i].kids.length cap']) ks[i] := by
  rcases hA with hA | ⟨b, off, rfl, hc⟩
  · omega
  · obtain ⟨c0, c1, c2⟩ := hc i h
    have hu := hU i h
    obtain ⟨e0, e1, A', cap', e2⟩ := hu.view
    rw [e0, e1, e2] at hu
    exact ⟨b, off, A', cap', rfl, by rw [c0, e0], by rw [c1, e1], by rw [c2, e2], hu⟩
theorem boxed_two (w : World) (a b c a' b' c' : Value) (t : TypeId) : Boxed ((w.alloc (.cells #[a, b, c] t)).alloc (.cells #[a', b', c'] t)) w.heap.size a b c ∧ Boxed ((w.alloc (.cells #[a, b, c] t)).alloc (.cells #[a', b', c'] t)) (w.heap.size + 1) a' b' c' ∧
    Below w.heap.size w ((w.alloc (.cells #[a, b, c] t)).alloc (.cells #[a', b', c'] t)) := by
  have hs : (w.alloc (.cells #[a, b, c] t)).heap.size = w.heap.size + 1 := by show (w.heap.push _).size = _; rw [Array.size_push]
  have h2 := boxed_new (w.alloc (.cells #[a, b, c] t)) a' b' c' t
  rw [hs] at h2
  exact ⟨(boxed_new w a b c t).later ((Below.refl _ _).alloc (Nat.le_refl _) _), h2, ((Below.refl _ _).alloc (Nat.le_refl _) _).alloc (by rw [hs]; omega) _⟩

set_option maxRecDepth 100000 in
set_option maxHeartbeats 2000000 in
theorem rcmp : ∀ (N : Nat) (t t' : T) (v v' : Value) (w : World), t.bulk < N → TermAt w v t → TermAt w v' t' → t.bulk ≤ 1048576 → t'.bulk ≤ 1048576 →
    Calls Tryz.prog 56 #[v, v'] w fun e w' => e = .returned (.int .i64 (t.cmp t')) ∧ Below w.heap.size w w' := by
  intro N
  induction N with
  | zero => intro t t' v v' w h; omega
  | succ N ih =>
    intro t t' v v' w hN ht ht' hbk hbk'
    cases ht with
    | mk k s A cap ks U h1 h2 h3 h4 hA hU =>
    cases ht' with
    | mk k' s' A' cap' ks' U' h1' h2' h3' h4' hA' hU' =>
      simp only [T.bulk] at hN hbk hbk'
      have hkn : ks.length ≤ 1048576 := by have := T.len_le ks; omega
      have hkn' : ks'.length ≤ 1048576 := by have := T.len_le ks'; omega
      have hcmp : (T.mk k s ks).cmp (.mk k' s' ks') = if k < k' then -1 else if k' < k then 1 else if T.less s s' = true then -1 else if (s.toList == s'.toList) = false then 1 else T.cmpAll ks ks' := rfl
      obtain ⟨R, hR⟩ : ∃ R, (T.mk k s ks).cmp (.mk k' s' ks') = R := ⟨_, rfl⟩
      rw [hR] at hcmp ⊢
      clear hR
      obtain ⟨hbx, hbx', hb1⟩ := boxed_two w (.int .i64 k) (.string s) (.slice A ks.length cap) (.int .i64 k') (.string s') (.slice A' ks'.length cap') 29
      go_enter Tryz.func56, Tryz.ntmps56
      go_upto_region 1 with fail
      generalize (w.alloc (.cells #[.int .i64 k, .string s, .slice A ks.length cap] 29)).alloc (.cells #[.int .i64 k', .string s', .slice A' ks'.length cap'] 29) = w1 at hbx hbx' hb1 ⊢
      obtain ⟨x0, x1, x2⟩ := hbx
      obtain ⟨y0, y1, y2⟩ := hbx'
      by_cases g1 : k < k'
      · rw [if_pos g1] at hcmp; subst hcmp
        go_wp2_with fail
        go_ret
        exact ⟨rfl, hb1⟩
      rw [if_neg g1] at hcmp
      by_cases g2 : k' < k
      · rw [if_pos g2] at hcmp; subst hcmp
        go_wp2_with fail
        go_ret
        exact ⟨rfl, hb1⟩
      rw [if_neg g2] at hcmp
      rcases Bool.eq_false_or_eq_true (T.less s s') with g3 | g3
      · rw [if_pos g3] at hcmp; subst hcmp
        unfold T.less at g3
        go_wp2_with fail
        go_ret
        exact ⟨rfl, hb1⟩
      rw [if_neg (by rw [g3]; decide)] at hcmp
      rcases Bool.eq_false_or_eq_true (s.toList == s'.toList) with g4 | g4
      rotate_left
      · rw [if_pos g4] at hcmp; subst hcmp
        unfold T.less at g3
        go_wp2_with fail
        go_ret
        exact ⟨rfl, hb1⟩
      rw [if_neg (by rw [g4]; decide)] at hcmp
      unfold T.less at g3
      subst hcmp
      go_wp2_with fail
      clear g1 g2 g3 g4
      go_loopw [5] (fun i wr => ∃ j : Nat, j ≤ ks.length ∧ j ≤ ks'.length ∧ i = .int .i64 j ∧ (∀ m (h : m < j) (h1 : m < ks.length) (h2 : m < ks'.length), T.cmp ks[m] ks'[m] = 0) ∧ Below w1.heap.size w1 wr) (fun i _ => ks.length - (intOf i).toNat)
      case atStart => exact ⟨0, Nat.zero_le _, Nat.zero_le _, rfl, fun m h => absurd h (by omega), Below.refl _ _⟩
      case round =>
        obtain ⟨j, hj, hj', rfl, hz, hbl⟩ := hrel
        have HZ := Lib.hid hz; clear hz
        have z2 := cell_later hbl x2
        have v2 := cell_later hbl y2
        by_cases hlt : j < ks.length
        · by_cases hlt' : j < ks'.length
          · have hbw := hb1.trans (hbl.mono hb1.size)
            obtain ⟨b, off, B1, C1, rfl, d0, d1, d2, hu⟩ := TermAt.cells hlt hA hU
            obtain ⟨b', off', B1', C1', rfl, d0', d1', d2', hu'⟩ := TermAt.cells hlt' hA' hU'
            have e0 := cell_later hbw d0; have e1 := cell_later hbw d1; have e2 := cell_later hbw d2
            have e0' := cell_later hbw d0'; have e1' := cell_later hbw d1'; have e2' := cell_later hbw d2'
            clear d0 d1 d2 d0' d1' d2'
            have hi : (j : Int) < (ks.length : Int) := by omega
            have hi' : (j : Int) < (ks'.length : Int) := by omega
            have hb2 : ks[j].bulk < N := by have := T.bulk_at ks j hlt; omega
            have hb3 : ks[j].bulk ≤ 1048576 := by have := T.bulk_at ks j hlt; omega
            have hb3' : ks'[j].bulk ≤ 1048576 := by have := T.bulk_at ks' j hlt'; omega
            have HU := Lib.hid (hu.later hbw); have HU' := Lib.hid (hu'.later hbw)
            have HLT := Lib.hid hlt; have HLT' := Lib.hid hlt'
            have hvals := T.cmp_vals ks[j] ks'[j]
            have hat := fun hn => T.cmpAll_at ks ks' j hlt hlt' (fun m g => HZ.out m g (by omega) (by omega)) hn
            have HAT := Lib.hid hat; clear hat hu hu'
            have hc := ih ks[j] ks'[j] (.agg #[.int .i64 ks[j].kind, .string ks[j].name, .slice B1 ks[j].kids.length C1]) (.agg #[.int .i64 ks'[j].kind, .string ks'[j].name, .slice B1' ks'[j].kids.length C1'])
            have HC := Lib.hid hc; clear hc
            obtain ⟨c, hcv⟩ : ∃ c, T.cmp ks[j] ks'[j] = c := ⟨_, rfl⟩
            rw [hcv] at hvals
            have HCV := Lib.hid hcv; clear hcv
            go_wp2_with fail
            have hbq := hbl.drew
            have huq := TermAt.drew HU.out
            have huq' := TermAt.drew HU'.out
            go_still_tail 10, (by kernel_rfl)
            change wpList _ _ _ _ _ wr.drew
            generalize wr.drew = wq at hbq huq huq' ⊢
            have HUQ := Lib.hid huq; have HUQ' := Lib.hid huq'
            clear huq huq' HU HU' e0 e1 e2 e0' e1' e2' z2 v2 hbl
            go_wp2_with fail
            refine (HC.out _ hb2 HUQ.out HUQ'.out hb3 hb3').mono ?_; rintro e w2 ⟨rfl, hb4⟩
            rw [HCV.out]
            replace hb4 := hbq.trans (hb4.mono hbq.size)
            by_cases hc0 : c = 0
            · subst hc0
              go_wp2_with fail
              go_roundw
              case rel =>
                refine ⟨j + 1, HLT.out, HLT'.out, by go_num, fun m h g1 g2 => ?_, hb4⟩
                rcases Nat.lt_or_ge m j with g | g
                · exact HZ.out m g g1 g2
                · obtain rfl : m = j := by omega
                  exact HCV.out
              case measure => have := HLT.out; simp [intOf]; omega
            · have hne : (c != 0) = true := by rw [bne_iff_ne]; exact hc0
              have HR := Lib.hid (HAT.out (fun h => hc0 (HCV.out.symm.trans h)))
              go_wp2_with fail
              go_ret
              exact ⟨ret_i64 (HCV.out.symm.trans HR.out.symm), hb1.trans (hb4.mono hb1.size)⟩
          · have hi : (j : Int) < (ks.length : Int) := by omega
            have hi' : (ks'.length : Int) ≤ (j : Int) := by omega
            have hl : T.cmpAll ks ks' = 1 := by rw [T.cmpAll_len ks ks' (fun m g1 g2 => HZ.out m (by omega) g1 g2), if_neg (by omega), if_pos (by omega)]
            have HL := Lib.hid hl; clear hl
            have q1 : (ks'.length : Int) < (ks.length : Int) := by omega
            go_wp2_with fail
            go_ret
            exact ⟨ret_i64 HL.out.symm, hb1.trans (hbl.mono hb1.size)⟩
        · have hi : (ks.length : Int) ≤ (j : Int) := by omega
          have hl := T.cmpAll_len ks ks' (fun m g1 g2 => HZ.out m (by omega) g1 g2)
          by_cases g1 : ks.length < ks'.length
          · rw [if_pos g1] at hl
            have HL := Lib.hid hl; clear hl
            have q1 : (ks.length : Int) < (ks'.length : Int) := by omega
            go_wp2_with fail
            go_ret
            exact ⟨ret_i64 HL.out.symm, hb1.trans (hbl.mono hb1.size)⟩
          · rw [if_neg g1, if_neg (by omega)] at hl
            have HL := Lib.hid hl; clear hl
            have q1 : (ks'.length : Int) ≤ (ks.length : Int) := by omega
            have q2 : (ks.length : Int) ≤ (ks'.length : Int) := by omega
            go_wp2_with fail
            go_ret
            exact ⟨ret_i64 HL.out.symm, hb1.trans (hbl.mono hb1.size)⟩
end Go.Proofs.YtihbmgkbipeakaaGreat

namespace Go.Proofs.YtihbmgkbipeakaaGreat
open Go.RowKit

namespace T
def ci (a b : Int) : Int := if a < b then -1 else if b < a then 1 else 0
def cs (a b : ByteArray) : Int := if less a b = true then -1 else if (a.toList == b.toList) = false then 1 else 0
end T
theorem nan_int (a : Int) (w : World) : Calls Tryz.prog 166 #[.int .i64 a] w fun e w' => e = .returned (.bool false) ∧ w = w' := by
  go_enter Tryz.func166, Tryz.ntmps166
  go_wp2
  go_ret
  exact ⟨ret_bool (by simp), rfl⟩
theorem nan_str (a : ByteArray) (w : World) : Calls Tryz.prog 167 #[.string a] w fun e w' => e = .returned (.bool false) ∧ w = w' := by
  go_enter Tryz.func167, Tryz.ntmps167
  go_wp2
  go_ret
  exact ⟨ret_bool (by simp), rfl⟩
theorem cmp_int (a b : Int) (w : World) : Calls Tryz.prog 135 #[.int .i64 a, .int .i64 b] w fun e w' => e = .returned (.int .i64 (T.ci a b)) ∧ w = w' := by
  have hc : (a < b ∧ T.ci a b = -1) ∨ (b ≤ a ∧ b < a ∧ T.ci a b = 1) ∨ (b ≤ a ∧ a ≤ b ∧ T.ci a b = 0) := by unfold T.ci; split <;> (try split) <;> omega
  rcases hc with ⟨c1, c2⟩ | ⟨c1, c1', c2⟩ | ⟨c1, c1', c2⟩
  all_goals
    have C2 := Lib.hid c2; clear c2
    go_enter Tryz.func135, Tryz.ntmps135
    go_wp2_with (go_at_call 166; refine (nan_int _ _).mono ?_; rintro e w' ⟨rfl, rfl⟩)
    go_ret
    exact ⟨ret_i64 C2.out.symm, rfl⟩
theorem cmp_str (a b : ByteArray) (w : World) : Calls Tryz.prog 136 #[.string a, .string b] w fun e w' => e = .returned (.int .i64 (T.cs a b)) ∧ w = w' := by
  have hc : (Op.bytesLess a.toList b.toList = true ∧ T.cs a b = -1) ∨ (Op.bytesLess a.toList b.toList = false ∧ (a.toList == b.toList) = false ∧ T.cs a b = 1) ∨ (Op.bytesLess a.toList b.toList = false ∧ (a.toList == b.toList) = true ∧ T.cs a b = 0) := by
    unfold T.cs T.less
    rcases Bool.eq_false_or_eq_true (Op.bytesLess a.toList b.toList) with h | h
    · left; exact ⟨h, by rw [if_pos h]⟩
    · rcases Bool.eq_false_or_eq_true (a.toList == b.toList) with h' | h'
      · right; right; exact ⟨h, h', by rw [h, h']; rfl⟩
      · right; left; exact ⟨h, h', by rw [h, h']; rfl⟩
  rcases hc with ⟨c1, c2⟩ | ⟨c1, c1', c2⟩ | ⟨c1, c1', c2⟩
  all_goals
    have C2 := Lib.hid c2; clear c2
    go_enter Tryz.func136, Tryz.ntmps136
    go_wp2_with (go_at_call 167; refine (nan_str _ _).mono ?_; rintro e w' ⟨rfl, rfl⟩)
    go_ret
    exact ⟨ret_i64 C2.out.symm, rfl⟩
def T.or3 (x y z : Int) : Int := if x ≠ 0 then x else if y ≠ 0 then y else z
set_option maxHeartbeats 800000 in
theorem cmp_or (b cap : Nat) (x y z : Int) (w : World) (h0 : w.cell? ⟨b, 0, none⟩ = some (.int .i64 x)) (h1 : w.cell? ⟨b, 1, none⟩ = some (.int .i64 y)) (h2 : w.cell? ⟨b, 2, none⟩ = some (.int .i64 z)) :
    Calls Tryz.prog 134 #[.slice (some ⟨b, 0, none⟩) 3 cap] w fun e w' => e = .returned (.int .i64 (T.or3 x y z)) ∧ w = w' := by
  obtain ⟨R, hR⟩ : ∃ R, T.or3 x y z = R := ⟨_, rfl⟩
  rw [hR]
  have HR := Lib.hid hR; clear hR
  go_enter Tryz.func134, Tryz.ntmps134
  go_wp2_with fail
  go_loop [8] (fun i => i = .int .i64 0 ∨ (i = .int .i64 1 ∧ x = 0) ∨ (i = .int .i64 2 ∧ x = 0 ∧ y = 0) ∨ (i = .int .i64 3 ∧ x = 0 ∧ y = 0 ∧ z = 0)) (fun i => 3 - (intOf i).toNat)
  case atStart => exact .inl rfl
  case round =>
    rcases hrel with rfl | ⟨rfl, rfl⟩ | ⟨rfl, rfl, rfl⟩ | ⟨rfl, rfl, rfl, rfl⟩
    · by_cases hx : x = 0
      · subst hx
        go_wp2_with fail
        go_round
        case rel => simp
        case measure => simp [intOf]
      · have hx' : (x != 0) = true := by rw [bne_iff_ne]; exact hx
        have e : R = x := by have := HR.out; unfold T.or3 at this; rw [if_pos hx] at this; exact this.symm
        have E := Lib.hid e; clear e hx
        go_wp2_with fail
        go_ret
        exact ⟨ret_i64 E.out.symm, rfl⟩
    · by_cases hx : y = 0
      · subst hx
        go_wp2_with fail
        go_round
        case rel => simp
        case measure => simp [intOf]
      · have hx' : (y != 0) = true := by rw [bne_iff_ne]; exact hx
        have e : R = y := by have := HR.out; unfold T.or3 at this; rw [if_neg (by simp), if_pos hx] at this; exact this.symm
        have E := Lib.hid e; clear e hx
        go_wp2_with fail
        go_ret
        exact ⟨ret_i64 E.out.symm, rfl⟩
    · have e : R = z := by have := HR.out; unfold T.or3 at this; rw [if_neg (by simp), if_neg (by simp)] at this; exact this.symm
      have E := Lib.hid e; clear e
      by_cases hx : z = 0
      · subst hx
        go_wp2_with fail
        go_round
        case rel => simp
        case measure => simp [intOf]
      · have hx' : (z != 0) = true := by rw [bne_iff_ne]; exact hx
        clear hx
        go_wp2_with fail
        go_ret
        exact ⟨ret_i64 E.out.symm, rfl⟩
    · have e : R = 0 := by have := HR.out; unfold T.or3 at this; simpa using this.symm
      have E := Lib.hid e; clear e
      go_wp2_with fail
      go_ret
      exact ⟨ret_i64 E.out.symm, rfl⟩
end Go.Proofs.YtihbmgkbipeakaaGreat
