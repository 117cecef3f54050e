/- Small laws that every chapter's walks use: results of four and five values, rows of bytes as strings. -/
import Derived.WalkKit
import Derived.WalkSpells
import Derived.WalkLawsBesides
import Derived.Lib.Hide
import Derived.Lib.BufferRead
import Derived.Laws.OwnMore
import Derived.Laws.IdiomStrings
import Derived.Lib.Strings
import Derived.Lib.IndexBytes
import Derived.BigQuiet
import Derived.Deep.QuietTactic
import Derived.Deep.OwnRows
import Derived.BigRegion
namespace Go.Proofs.YtdejgomljelnlaaDoor
open Go.RowKit

theorem results_tmp4 {fn : Func} {t u v x : Tmp} (h : fn.results = #[.tmp t, .tmp u, .tmp v, .tmp x]) (tmps : Array Value) (P : Program) (w : World) :
    (results fn tmps).run P w = .ok (.tuple #[tmps.getD t undef, tmps.getD u undef, tmps.getD v undef, tmps.getD x undef]) w := by simp [results, h]
theorem ret_i64 {a b : Int} (h : a = b) : Ending.returned (.int .i64 a) = .returned (.int .i64 b) := by rw [h]
theorem ret_bool {a b : Bool} (h : a = b) : Ending.returned (.bool a) = .returned (.bool b) := by rw [h]
theorem ret_str {a b : ByteArray} (h : a = b) : Ending.returned (.string a) = .returned (.string b) := by rw [h]
theorem ret_two {a b c d : Int} (h : a = b) (h' : c = d) : Ending.returned (.tuple #[.int .i64 a, .int .i64 c]) = .returned (.tuple #[.int .i64 b, .int .i64 d]) := by rw [h, h']
theorem ret_four {a b c d a' b' c' : Int} (h : a = a') (h' : b = b') (h'' : c = c') : Ending.returned (.tuple #[.int .i64 a, .int .i64 b, .int .i64 c, .int .i64 d]) = .returned (.tuple #[.int .i64 a', .int .i64 b', .int .i64 c', .int .i64 d]) := by rw [h, h', h'']

/-- A quiet callee's contract, as a quiet region takes it. -/
theorem quiet_l {P : Program} {f : FuncId} {args : Array Value} {w : World} {n : Nat} {v : Value} (h : Calls P f args (w.drewN n) fun e w' => e = .returned v ∧ w.drewN n = w') :
    Calls P f args (w.drewN n) fun e w'' => e = .returned v ∧ ∃ m, w'' = w.drewN m := h.mono fun _ _ ⟨he, hm⟩ => ⟨he, n, hm.symm⟩
theorem quiet_al {P : Program} {f : FuncId} {args : Array Value} {w : World} {a n : Nat} {v : Value} (h : Calls P f args (w.drewN (a + n)) fun e w' => e = .returned v ∧ w.drewN (a + n) = w') :
    Calls P f args (w.drewN (a + n)) fun e w'' => e = .returned v ∧ ∃ m, w'' = w.drewN (a + m) := h.mono fun _ _ ⟨he, hm⟩ => ⟨he, n, hm.symm⟩
theorem quiet_any {P : Program} {f : FuncId} {args : Array Value} {w wq : World} {v : Value} (h : Calls P f args wq fun e w' => e = .returned v ∧ wq = w') (hq : ∃ m, wq = w.drewN m := by exact ⟨_, rfl⟩) :
    Calls P f args wq fun e w'' => e = .returned v ∧ ∃ m, w'' = w.drewN m := h.mono fun _ _ ⟨he, hm⟩ => ⟨he, by obtain ⟨m, hm'⟩ := hq; exact ⟨m, by rw [← hm]; exact hm'⟩⟩
theorem below_drewN {B : Nat} {a w : World} (h : Below B a w) (n : Nat) : Below B a (w.drewN n) := ⟨h.os, h.tape, h.output, h.size, h.block⟩
theorem rowIs_drewN {w : World} {b : Nat} {t : TypeId} {n : Nat} {f : Nat → Value} (h : w.rowIs b t n f) (k : Nat) : (w.drewN k).rowIs b t n f := h

theorem str_empty {s : ByteArray} {l : List UInt8} {b : Bool} (h : s.data.toList = l) (hb : l.isEmpty = b) : s.toList.isEmpty = b ∧ (!s.toList.isEmpty) = !b := by
  rw [ByteArray.toList_eq, h, hb]; exact ⟨rfl, rfl⟩
theorem str_add (a b : List UInt8) : (⟨a.toArray⟩ : ByteArray) ++ (⟨b.toArray⟩ : ByteArray) = ⟨(a ++ b).toArray⟩ := by
  apply ByteArray.ext; simp
theorem str_of (s : ByteArray) : s = ⟨s.data.toList.toArray⟩ := by apply ByteArray.ext; simp
theorem str_size (l : List UInt8) : (⟨l.toArray⟩ : ByteArray).size = l.length := by show l.toArray.size = _; simp

theorem str_eq {a b : ByteArray} (h : a.data.toList = b.data.toList) : a = b := by apply ByteArray.ext; exact Array.toList_inj.1 h
theorem str_take (l : List UInt8) (n : Nat) : (⟨l.toArray⟩ : ByteArray).extract 0 n = ⟨(l.take n).toArray⟩ := by
  apply str_eq; rw [Lib.extract_data]; simp

/-- The bytes as cells. -/
def BL (l : List UInt8) : List Value := l.map fun b => Value.int .u8 (b.toNat : Int)
theorem BL_nil : BL [] = [] := rfl
theorem BL_append (l m : List UInt8) : BL (l ++ m) = BL l ++ BL m := by simp [BL]
theorem BL_length (l : List UInt8) : (BL l).length = l.length := by simp [BL]
theorem BL_one (l : List UInt8) : ∀ u ∈ BL l, u.oneCell' = true := by
  intro u hu
  simp only [BL, List.mem_map] at hu
  obtain ⟨b, _, rfl⟩ := hu
  rfl
/-- A byte out of a number. -/
def b8 (n : Int) : UInt8 := UInt8.ofNat n.toNat
theorem b8_toNat (n : Int) (h : 0 ≤ n) (h' : n ≤ 255) : ((b8 n).toNat : Int) = n := by
  unfold b8
  rw [UInt8.toNat_ofNat']
  omega
theorem b8_val (n : Int) (h : 0 ≤ n) (h' : n ≤ 255) : Value.int .u8 ((b8 n).toNat : Int) = .int .u8 n := by rw [b8_toNat n h h']

/-- 'string(b)' of a row of the call's own. -/
theorem conv_own {P : Program} {w : World} {base : Nat} {v : Value} (src dst e : TypeId) (l : List UInt8) (n : Nat) (hn : n = l.length) (h : w.ownsRow base e 1 v n (BL l))
    (hs : P.underlying src = some (.slice e)) (he : P.underlying e = some (.int .u8)) (hd : P.underlying dst = some .string) :
    (convert src dst v).run P w = .ok (.string ⟨l.toArray⟩) w := by
  subst hn
  rcases h.2 with ⟨rfl, hl⟩ | ⟨g, cap, cur, rfl, _⟩
  · have : l = [] := List.eq_nil_of_length_eq_zero hl
    subst this
    exact Lib.run_convert_nil_bytes w src dst e 0 hs he hd
  · refine run_convert_bytes_back w src dst e ⟨g, 0, none⟩ cap l hs he hd fun j hj => ?_
    have := h.cellAt (g := g) j (by omega)
    have e0 : (⟨g, 0, none⟩ : Addr).add j = ⟨g, j, none⟩ := by simp [Addr.add]; omega
    rw [e0, this]
    simp [BL, List.getElem?_eq_getElem hj]

/-- Two bytes of a new block as a string. -/
theorem conv_two {P : Program} (w : World) (src dst e : TypeId) (a b : Int) (ha : 0 ≤ a ∧ a ≤ 255) (hb : 0 ≤ b ∧ b ≤ 255) (c : Nat)
    (hs : P.underlying src = some (.slice e)) (he : P.underlying e = some (.int .u8)) (hd : P.underlying dst = some .string) :
    (convert src dst (.slice (some ⟨w.heap.size, 0, none⟩) 2 c)).run P (w.alloc (.cells #[.int .u8 a, .int .u8 b] e)) = .ok (.string ⟨#[b8 a, b8 b]⟩) (w.alloc (.cells #[.int .u8 a, .int .u8 b] e)) := by
  have := run_convert_bytes_back (P := P) (w.alloc (.cells #[.int .u8 a, .int .u8 b] e)) src dst e ⟨w.heap.size, 0, none⟩ c [b8 a, b8 b] hs he hd (fun j hj => by
    match j, hj with
    | 0, _ => simpa [b8_toNat a ha.1 ha.2] using cell_two_new w (.int .u8 a) (.int .u8 b) e 0 _ rfl
    | 1, _ => simpa [b8_toNat b hb.1 hb.2] using cell_two_new w (.int .u8 a) (.int .u8 b) e 1 _ rfl)
  simpa using this
/-- A byte of a new block as a string. -/
theorem conv_one {P : Program} (w : World) (src dst e : TypeId) (a : Int) (ha : 0 ≤ a ∧ a ≤ 255) (c : Nat)
    (hs : P.underlying src = some (.slice e)) (he : P.underlying e = some (.int .u8)) (hd : P.underlying dst = some .string) :
    (convert src dst (.slice (some ⟨w.heap.size, 0, none⟩) 1 c)).run P (w.alloc (.cells #[.int .u8 a] e)) = .ok (.string ⟨#[b8 a]⟩) (w.alloc (.cells #[.int .u8 a] e)) := by
  have := run_convert_bytes_back (P := P) (w.alloc (.cells #[.int .u8 a] e)) src dst e ⟨w.heap.size, 0, none⟩ c [b8 a] hs he hd (fun j hj => by
    match j, hj with
    | 0, _ => simpa [b8_toNat a ha.1 ha.2] using cell_one_new w (.int .u8 a) e 0 _ rfl)
  simpa using this

/-- Block g begins with these bytes, and they may be written. -/
def BytesAt (w : World) (g : Nat) (l : List UInt8) : Prop := ∀ i (h : i < l.length), w.cell? ⟨g, i, none⟩ = some (.int .u8 (l[i].toNat : Int)) ∧ w.frozen? ⟨g, i, none⟩ = false
theorem BytesAt.of_string (w : World) (e : TypeId) (s : ByteArray) (cap : Nat) (hcap : s.size ≤ (bytesRow s cap).size) :
    BytesAt ((w.drew.alloc (.cells (bytesRow s cap) e ((bytesRow s cap).size, (bytesRow s cap).size + 1)))) w.heap.size s.data.toList := by
  intro i h
  have hi : i < s.data.size := by simpa using h
  refine ⟨?_, ?_⟩
  · have := World.cell?_alloc_mark w.drew (bytesRow s cap) e ((bytesRow s cap).size, (bytesRow s cap).size + 1) i
    rw [bytesRow_at s cap i hi] at this
    simpa using this
  · have := World.frozen?_alloc_mark w.drew (bytesRow s cap) e ((bytesRow s cap).size) ((bytesRow s cap).size + 1) i
    have hs : i < s.size := hi
    have e2 : (decide ((bytesRow s cap).size ≤ i) && decide (i < (bytesRow s cap).size + 1)) = false := by
      rw [decide_eq_false (by omega)]; rfl
    rw [e2] at this
    simpa using this
theorem bytesRow_size (s : ByteArray) (cap : Nat) : s.size ≤ (bytesRow s cap).size := by
  unfold bytesRow; rw [Array.size_append, Array.size_map]; show s.data.size ≤ _; omega
theorem BytesAt.set_ {w : World} {g : Nat} {l : List UInt8} (h : BytesAt w g l) (i : Nat) (n : Int) (h0 : 0 ≤ n) (h1 : n ≤ 255) (hi : i < l.length) : BytesAt (w.setCell ⟨g, i, none⟩ (.int .u8 n)) g (l.set i (b8 n)) := by
  intro j hj
  have hj' : j < l.length := by simpa using hj
  refine ⟨?_, by rw [World.frozen?_setCell]; exact (h j hj').2⟩
  by_cases e : i = j
  · subst e
    rw [World.cell?_setCell_same _ _ _ (h i hi).1]
    simp [b8_toNat n h0 h1]
  · rw [World.cell?_setCell_other _ _ _ _ (by intro hh; injection hh with _ h2; exact e h2)]
    rw [(h j hj').1]
    simp [e]
theorem BytesAt.drewN {w : World} {g : Nat} {l : List UInt8} (h : BytesAt w g l) (n : Nat) : BytesAt (w.drewN n) g l := h
theorem BytesAt.conv {P : Program} {w : World} {g : Nat} {l : List UInt8} (h : BytesAt w g l) (src dst e : TypeId) (n c : Nat) (hn : n = l.length)
    (hs : P.underlying src = some (.slice e)) (he : P.underlying e = some (.int .u8)) (hd : P.underlying dst = some .string) :
    (convert src dst (.slice (some ⟨g, 0, none⟩) n c)).run P w = .ok (.string ⟨l.toArray⟩) w := by
  subst hn
  refine run_convert_bytes_back w src dst e ⟨g, 0, none⟩ c l hs he hd fun j hj => ?_
  have e0 : (⟨g, 0, none⟩ : Addr).add j = ⟨g, j, none⟩ := by simp [Addr.add]; omega
  rw [e0]; exact (h j hj).1
end Go.Proofs.YtdejgomljelnlaaDoor
