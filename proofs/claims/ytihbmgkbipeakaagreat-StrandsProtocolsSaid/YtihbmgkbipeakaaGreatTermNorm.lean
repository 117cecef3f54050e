/- Chapter 40: the normal form, plain; boxes. -/
import Derived.Test.YtihbmgkbipeakaaGreatTermOwn
namespace Go.Proofs.YtihbmgkbipeakaaGreat
open Go.RowKit

namespace T
/-- Insertion into a list that lies in reverse. -/
def insR (x : T) : List T → List T
  | [] => [x]
  | y :: r => if cmp x y < 0 then y :: insR x r else x :: y :: r
def isort (l : List T) : List T := (l.foldl (fun acc x => insR x acc) []).reverse
mutual
def norm : T → T
  | .mk k s ks => .mk k s (if k = 7 then isort (normAll ks) else normAll ks)
def normAll : List T → List T
  | [] => []
  | t :: r => norm t :: normAll r
end
theorem normAll_map : ∀ l : List T, normAll l = l.map norm
  | [] => rfl
  | t :: r => by simp only [normAll, List.map_cons, normAll_map r]
theorem norm_kind (t : T) : t.norm.kind = t.kind := by cases t; rfl
theorem norm_name (t : T) : t.norm.name = t.name := by cases t; rfl
theorem bulkAll_append : ∀ l m : List T, bulkAll (l ++ m) = bulkAll l + bulkAll m
  | [], m => by simp [bulkAll]
  | t :: r, m => by simp only [List.cons_append, bulkAll, bulkAll_append r m]; omega
theorem bulkAll_reverse (l : List T) : bulkAll l.reverse = bulkAll l := by
  induction l with
  | nil => rfl
  | cons t r ih => rw [List.reverse_cons, bulkAll_append, ih]; simp only [bulkAll]; omega
theorem bulkAll_insR (x : T) (l : List T) : bulkAll (insR x l) = x.bulk + bulkAll l := by
  induction l with
  | nil => rfl
  | cons t r ih =>
    simp only [insR]
    split
    · simp only [bulkAll, ih]; omega
    · simp only [bulkAll]
theorem length_insR (x : T) (l : List T) : (insR x l).length = l.length + 1 := by
  induction l with
  | nil => rfl
  | cons t r ih =>
    simp only [insR]
    split
    · simp only [List.length_cons, ih]
    · rfl
theorem bulkAll_fold (l : List T) : ∀ acc, bulkAll (l.foldl (fun acc x => insR x acc) acc) = bulkAll acc + bulkAll l := by
  induction l with
  | nil => intro acc; simp [bulkAll]
  | cons t r ih => intro acc; rw [List.foldl_cons, ih, bulkAll_insR]; simp only [bulkAll]; omega
theorem length_fold (l : List T) : ∀ acc : List T, (l.foldl (fun acc x => insR x acc) acc).length = acc.length + l.length := by
  induction l with
  | nil => intro acc; simp
  | cons t r ih => intro acc; rw [List.foldl_cons, ih, length_insR]; simp only [List.length_cons]; omega
theorem bulkAll_isort (l : List T) : bulkAll (isort l) = bulkAll l := by
  unfold isort; rw [bulkAll_reverse, bulkAll_fold]; simp [bulkAll]
theorem length_isort (l : List T) : (isort l).length = l.length := by
  unfold isort; rw [List.length_reverse, length_fold]; simp
mutual
theorem bulk_norm : ∀ t : T, t.norm.bulk = t.bulk
  | .mk k s ks => by
    simp only [norm, bulk]
    split
    · rw [bulkAll_isort, bulk_normAll ks]
    · rw [bulk_normAll ks]
theorem bulk_normAll : ∀ l : List T, bulkAll (normAll l) = bulkAll l
  | [] => rfl
  | t :: r => by simp only [normAll, bulkAll, bulk_norm t, bulk_normAll r]
end
theorem shape_kids {k : Int} {s : ByteArray} {ks : List T} (h : (T.mk k s ks).shape = true) : ∀ i (g : i < ks.length), ks[i].shape = true := by
  intro i g
  by_cases h12 : k = 1 ∨ k = 2
  · rw [shape_atom k s ks h12, Bool.and_eq_true] at h
    have := beq_iff_eq.1 h.2; omega
  · rw [shape_head k s ks (fun e => h12 (.inl e)) (fun e => h12 (.inr e)), Bool.and_eq_true, Bool.not_eq_true'] at h
    have := List.any_eq_false.1 h.2 ks[i] (List.getElem_mem g)
    simpa using this
theorem shape_seven {s : ByteArray} {ks : List T} (h : (T.mk 7 s ks).shape = true) : 1 ≤ ks.length ∧ ks.length ≤ 4 := by
  rw [shape_head 7 s ks (by decide) (by decide), Bool.and_eq_true, Bool.and_eq_true] at h
  rcases headOk_kinds 7 ks with ⟨g, _⟩ | g
  · rw [g] at h; simp at h
  · omega
end T
/-- A block of the three cells of a term, known whole. -/
def Box (w : World) (g : Nat) (a b c : Value) : Prop := w.heap[g]? = some (.cells #[a, b, c] 29 (0, 0))
theorem Box.cells {w : World} {g : Nat} {a b c : Value} (h : Box w g a b c) : w.cell? ⟨g, 0, none⟩ = some a ∧ w.cell? ⟨g, 1, none⟩ = some b ∧ w.cell? ⟨g, 2, none⟩ = some c := by
  unfold Box at h
  refine ⟨?_, ?_, ?_⟩ <;> simp [World.cell?, h]
theorem Box.free {w : World} {g : Nat} {a b c : Value} (h : Box w g a b c) : w.frozen? ⟨g, 0, none⟩ = false ∧ w.frozen? ⟨g, 1, none⟩ = false ∧ w.frozen? ⟨g, 2, none⟩ = false := by
  unfold Box at h
  refine ⟨?_, ?_, ?_⟩ <;> simp [World.frozen?, h]
theorem Box.lt {w : World} {g : Nat} {a b c : Value} (h : Box w g a b c) : g < w.heap.size := (Array.getElem?_eq_some_iff.1 h).1
theorem Box.set2 {w : World} {g : Nat} {a b c : Value} (h : Box w g a b c) (v : Value) : Box (w.setCell ⟨g, 2, none⟩ v) g a b v := by
  unfold Box at *
  simp [World.setCell, Array.getElem?_modify, h]
theorem Box.setOther {w : World} {g : Nat} {a b c : Value} (h : Box w g a b c) {p : Addr} (hp : g ≠ p.block) (v : Value) : Box (w.setCell p v) g a b c := by
  unfold Box at *
  rw [Below.heap_setCell _ _ _ _ hp]; exact h
theorem Box.later {w w' : World} {g : Nat} {a b c : Value} (h : Box w g a b c) (hb : Below w.heap.size w w') : Box w' g a b c := (hb.block g h.lt).trans h
theorem Box.grown {w w' : World} {g : Nat} {a b c : Value} {row : Option Nat} (h : Box w g a b c) (hg : w.grownBy w' row) (hr : row ≠ some g) : Box w' g a b c := (hg.block g h.lt (fun e => hr e.symm)).trans h
theorem Box.new (w : World) (a b c : Value) : Box (w.alloc (.cells #[a, b, c] 29)) w.heap.size a b c := heap_alloc_new w _
theorem box_two (w : World) (a b c a' b' c' : Value) : Box ((w.alloc (.cells #[a, b, c] 29)).alloc (.cells #[a', b', c'] 29)) w.heap.size a b c ∧ Box ((w.alloc (.cells #[a, b, c] 29)).alloc (.cells #[a', b', c'] 29)) (w.heap.size + 1) a' b' c' ∧
    Below w.heap.size w ((w.alloc (.cells #[a, b, c] 29)).alloc (.cells #[a', b', c'] 29)) ∧ ((w.alloc (.cells #[a, b, c] 29)).alloc (.cells #[a', b', c'] 29)).heap.size = w.heap.size + 2 := by
  have hs := size_alloc1 w (.cells #[a, b, c] 29)
  have h2 := Box.new (w.alloc (.cells #[a, b, c] 29)) a' b' c'
  rw [hs] at h2
  exact ⟨(Box.new w a b c).later (below_alloc1 _ _), h2, (below_alloc1 _ _).trans ((below_alloc1 _ _).mono (by rw [hs]; omega)), by rw [size_alloc1, hs]⟩
theorem own_later {w w' : World} {base : Nat} {e : TypeId} {size n : Nat} {v : Value} {xs : List Value} (h : w.ownsRow base e size v n xs) (hb : Below w.heap.size w w') : w'.ownsRow base e size v n xs :=
  h.kept (row := none) ⟨hb.os, hb.tape, hb.output, hb.size, fun k hk _ => hb.block k hk⟩ (by cases v.ownBlock <;> simp)
theorem below_undrew {w w' : World} (h : Below w.drew.heap.size w.drew w') : Below w.heap.size w w' := ⟨h.os, h.tape, h.output, h.size, h.block⟩
/-- A term is returned that lies in new memory. -/
def RetT (t : T) (w : World) (e : Ending) (w' : World) : Prop := ∃ A cap, e = .returned (.agg #[.int .i64 t.kind, .string t.name, .slice A t.kids.length cap]) ∧
  TermIn (from_ w.heap.size) w' (.agg #[.int .i64 t.kind, .string t.name, .slice A t.kids.length cap]) t ∧ Below w.heap.size w w'
theorem RetT.cast {t t' : T} {w : World} {e : Ending} {w' : World} (h : RetT t w e w') (ht : t' = t) : RetT t' w e w' := by rw [ht]; exact h
/-- Three stores into the block of a result. -/
theorem box_set3 {w : World} {g : Nat} {a b c : Value} (h : Box w g a b c) (x y z : Value) : Box (((w.setCell ⟨g, 0, none⟩ x).setCell ⟨g, 1, none⟩ y).setCell ⟨g, 2, none⟩ z) g x y z := by
  unfold Box at *
  simp [World.setCell, Array.getElem?_modify, h]
theorem set3_other (w : World) (g : Nat) (x y z : Value) (k : Nat) (hk : k ≠ g) : (((w.setCell ⟨g, 0, none⟩ x).setCell ⟨g, 1, none⟩ y).setCell ⟨g, 2, none⟩ z).heap[k]? = w.heap[k]? := by
  rw [Below.heap_setCell _ _ _ _ hk, Below.heap_setCell _ _ _ _ hk, Below.heap_setCell _ _ _ _ hk]
theorem ret_set3 {t : T} {w wr : World} {A : Option Addr} {cap g : Nat} (x y z : Value) (hbw : Below w.heap.size w wr) (hg : w.heap.size ≤ g)
    (hx : x = .int .i64 t.kind) (hy : y = .string t.name) (hz : z = .slice A t.kids.length cap) (h : TermIn (from_ (g + 1)) wr (.agg #[x, y, z]) t) :
    RetT t w (.returned (.agg #[x, y, z])) (((wr.setCell ⟨g, 0, none⟩ x).setCell ⟨g, 1, none⟩ y).setCell ⟨g, 2, none⟩ z) := by
  subst hx; subst hy; subst hz
  refine ⟨A, cap, rfl, h.keep fun b hb _ => ?_, ((hbw.setCell hg _).setCell hg _).setCell hg _⟩
  have := of_decide_eq_true hb
  exact ⟨decide_eq_true (by omega), set3_other _ _ _ _ _ _ (by omega)⟩
theorem grownBy_trans {w w' w'' : World} {row : Option Nat} (h : w.grownBy w' row) (k : w'.grownBy w'' row) : w.grownBy w'' row :=
  ⟨k.os.trans h.os, k.tape.trans h.tape, k.output.trans h.output, Nat.le_trans h.size k.size, fun i hi hn => (k.block i (Nat.lt_of_lt_of_le hi h.size) hn).trans (h.block i hi hn)⟩
theorem grownBy_of_below {w w' : World} (row : Option Nat) (h : Below w.heap.size w w') : w.grownBy w' row := ⟨h.os, h.tape, h.output, h.size, fun k hk _ => h.block k hk⟩
end Go.Proofs.YtihbmgkbipeakaaGreat
