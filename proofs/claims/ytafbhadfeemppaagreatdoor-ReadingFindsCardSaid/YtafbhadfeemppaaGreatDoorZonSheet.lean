/- Chapter 11: a sheet in memory; the walks of get, value and digit. -/
import Derived.Test.YtafbhadfeemppaaGreatDoorZonValid
import Derived.Laws.IdiomCopy
import Derived.IntWalk
namespace Go.Proofs.YtafbhadfeemppaaGreatDoor
open Go.RowKit

namespace Zn
def lay (f : Nat) : Array Value := if f = 3 then lay3 else if f = 2 then lay2 else lay1
def nLines (f : Nat) : Nat := if f = 1 then 3 else 2
def wLine (f : Nat) : Nat := if f = 3 then 44 else if f = 2 then 36 else 30
/-- Lines of a format. -/
def Shaped (f : Nat) (L : List (List UInt8)) : Prop := L.length = nLines f ∧ ∀ l ∈ L, l.length = wLine f
/-- The text of a field. -/
def fld (f : Nat) (L : List (List UInt8)) (i : Nat) : List UInt8 := ((L.getD (place f i).1 []).drop (place f i).2.1).take (place f i).2.2
theorem lay_at (f : Nat) (hf : 1 ≤ f ∧ f ≤ 3) (i : Nat) (hi : i < 15) : (lay f)[3 * i]? = some (.int .i64 (place f i).1) ∧ (lay f)[3 * i + 1]? = some (.int .i64 (place f i).2.1) ∧ (lay f)[3 * i + 2]? = some (.int .i64 (place f i).2.2) := by
  have h3 : f = 1 ∨ f = 2 ∨ f = 3 := by omega
  have h15 : i = 0 ∨ i = 1 ∨ i = 2 ∨ i = 3 ∨ i = 4 ∨ i = 5 ∨ i = 6 ∨ i = 7 ∨ i = 8 ∨ i = 9 ∨ i = 10 ∨ i = 11 ∨ i = 12 ∨ i = 13 ∨ i = 14 := by omega
  rcases h3 with rfl | rfl | rfl <;> rcases h15 with rfl | rfl | rfl | rfl | rfl | rfl | rfl | rfl | rfl | rfl | rfl | rfl | rfl | rfl | rfl <;> exact ⟨rfl, rfl, rfl⟩
theorem place_in (f : Nat) (hf : 1 ≤ f ∧ f ≤ 3) (i : Nat) (hi : i < 15) : (place f i).1 < nLines f ∧ (place f i).2.1 + (place f i).2.2 ≤ wLine f := by
  have h3 : f = 1 ∨ f = 2 ∨ f = 3 := by omega
  have h15 : i = 0 ∨ i = 1 ∨ i = 2 ∨ i = 3 ∨ i = 4 ∨ i = 5 ∨ i = 6 ∨ i = 7 ∨ i = 8 ∨ i = 9 ∨ i = 10 ∨ i = 11 ∨ i = 12 ∨ i = 13 ∨ i = 14 := by omega
  rcases h3 with rfl | rfl | rfl <;> rcases h15 with rfl | rfl | rfl | rfl | rfl | rfl | rfl | rfl | rfl | rfl | rfl | rfl | rfl | rfl | rfl <;> decide
theorem lay_size (f : Nat) : (lay f).size = 45 := by unfold lay; split; · rfl
                                                     split <;> rfl
theorem lay_one (f : Nat) : (lay f).all (·.oneCell') = true := by unfold lay; split; · kernel_rfl
                                                                  split <;> kernel_rfl
theorem fld_len (f : Nat) (hf : 1 ≤ f ∧ f ≤ 3) (L : List (List UInt8)) (hL : Shaped f L) (i : Nat) (hi : i < 15) : (fld f L i).length = (place f i).2.2 := by
  obtain ⟨h1, h2⟩ := place_in f hf i hi
  have hl : (L.getD (place f i).1 []).length = wLine f := by
    rw [List.getD_eq_getElem?_getD, List.getElem?_eq_getElem (by rw [hL.1]; exact h1)]
    exact hL.2 _ (List.getElem_mem _)
  unfold fld
  rw [List.length_take, List.length_drop, hl]
  omega
end Zn

/-- A line in memory: its block, its capacity, its bytes. -/
abbrev Ln := Nat × Nat × List UInt8
def Ln.val (r : Ln) : Value := .slice (some ⟨r.1, 0, none⟩) r.2.2.length r.2.1
def Ln.txt (rows : List Ln) : List (List UInt8) := rows.map (·.2.2)
/-- Lines in the call's own memory, from base on. -/
def LinesAt (w : World) (base : Nat) (v : Value) (rows : List Ln) : Prop :=
  w.ownsRow base 59 1 v rows.length (rows.map Ln.val) ∧ (rows.map (·.1)).Nodup ∧ ∀ r ∈ rows, base ≤ r.1 ∧ r.1 < w.heap.size ∧ v.ownBlock ≠ some r.1 ∧ r.2.2.length ≤ r.2.1 ∧ BytesAt w r.1 r.2.2
/-- A sheet: its places and its lines. -/
def SheetIs (w : World) (g : Nat) (M : Array Value) (v : Value) : Prop := w.heap[g]? = some (.cells (M.push v) 84 (0, 0))
def SheetAt (w : World) (base g f : Nat) (rows : List Ln) : Prop := ∃ v, SheetIs w g (Zn.lay f) v ∧ LinesAt w base v rows ∧ g < base
theorem SheetIs.lt {w : World} {g : Nat} {M : Array Value} {v : Value} (h : SheetIs w g M v) : g < w.heap.size := (Array.getElem?_eq_some_iff.1 h).1
theorem SheetIs.later {w w' : World} {g : Nat} {M : Array Value} {v : Value} (h : SheetIs w g M v) (hb : Below w.heap.size w w') : SheetIs w' g M v := (hb.block g h.lt).trans h
theorem SheetIs.cell {w : World} {g : Nat} {M : Array Value} {v : Value} (h : SheetIs w g M v) (i : Nat) (hi : i < M.size) : w.cell? ⟨g, i, none⟩ = M[i]? := by
  rw [cell_of_row w g i _ _ _ h, Array.getElem?_push_lt hi, Array.getElem?_eq_getElem hi]
theorem SheetIs.last {w : World} {g : Nat} {M : Array Value} {v : Value} (h : SheetIs w g M v) : w.cell? ⟨g, M.size, none⟩ = some v := by
  rw [cell_of_row w g _ _ _ _ h, Array.getElem?_push_size]
theorem BytesAt.later {w w' : World} {g : Nat} {l : List UInt8} (h : BytesAt w g l) (hb : Below w.heap.size w w') (hg : g < w.heap.size) : BytesAt w' g l :=
  fun i hi => ⟨(hb.cell (p := ⟨g, i, none⟩) hg).trans (h i hi).1, (hb.frozen (p := ⟨g, i, none⟩) hg).trans (h i hi).2⟩
theorem ownsRow_later {w w' : World} {base e size n : Nat} {v : Value} {xs : List Value} (h : w.ownsRow base e size v n xs) (hb : Below w.heap.size w w') : w'.ownsRow base e size v n xs := by
  refine ⟨h.1, ?_⟩
  rcases h.2 with h | ⟨g, cap, cur, h0, h1, h2, h3⟩
  · exact .inl h
  · exact .inr ⟨g, cap, cur, h0, h1, (hb.block g (Array.getElem?_eq_some_iff.1 h2).1).trans h2, h3⟩
theorem LinesAt.later {w w' : World} {base : Nat} {v : Value} {rows : List Ln} (h : LinesAt w base v rows) (hb : Below w.heap.size w w') : LinesAt w' base v rows :=
  ⟨ownsRow_later h.1 hb, h.2.1, fun r hr => by
    obtain ⟨h1, h2, h3, h4, h5⟩ := h.2.2 r hr
    exact ⟨h1, Nat.lt_of_lt_of_le h2 hb.size, h3, h4, h5.later hb h2⟩⟩
theorem SheetAt.later {w w' : World} {base g f : Nat} {rows : List Ln} (h : SheetAt w base g f rows) (hb : Below w.heap.size w w') : SheetAt w' base g f rows := by
  obtain ⟨v, h1, h2, h3⟩ := h
  exact ⟨v, h1.later hb, h2.later hb, h3⟩
theorem SheetAt.drewN {w : World} {base g f : Nat} {rows : List Ln} (h : SheetAt w base g f rows) (n : Nat) : SheetAt (w.drewN n) base g f rows := h
/-- A line's cell in the row of lines, and its bytes. -/
theorem LinesAt.line {w : World} {base : Nat} {v : Value} {rows : List Ln} (h : LinesAt w base v rows) (hne : 0 < rows.length) : ∃ b c, v = .slice (some ⟨b, 0, none⟩) rows.length c ∧ base ≤ b ∧ b < w.heap.size ∧ rows.length ≤ c ∧ c ≤ maxLen ∧
    ∀ j (hj : j < rows.length), w.cell? ⟨b, j, none⟩ = some (Ln.val rows[j]) ∧ BytesAt w rows[j].1 rows[j].2.2 ∧ rows[j].2.2.length ≤ rows[j].2.1 ∧ rows[j].1 < w.heap.size := by
  have hown := h.1
  rcases h.1.2 with ⟨_, h0⟩ | ⟨b, c, cur, h0, h1, h2, h3, h4, _⟩
  · omega
  · subst h0
    refine ⟨b, c, rfl, h1, (Array.getElem?_eq_some_iff.1 h2).1, h3, h4, fun j hj => ?_⟩
    obtain ⟨_, k2, _, k4, k5⟩ := h.2.2 rows[j] (List.getElem_mem hj)
    refine ⟨?_, k5, k4, k2⟩
    rw [hown.cellAt j (by omega), List.getElem?_map, List.getElem?_eq_getElem hj]; rfl

theorem cell_new (w : World) (A : Array Value) (t : TypeId) (i : Nat) : (w.alloc (.cells A t)).cell? ⟨w.heap.size, i, none⟩ = A[i]? := cell_of_row _ _ i _ _ _ (heap_alloc_new w _)
theorem drop_bytes {w : World} {k : Nat} {l : List UInt8} (h : BytesAt w k l) (a n : Nat) (hn : a + n ≤ l.length) (c : Nat) (src dst e : TypeId) {P : Program}
    (hs : P.underlying src = some (.slice e)) (he : P.underlying e = some (.int .u8)) (hd : P.underlying dst = some .string) :
    (convert src dst (.slice (some ⟨k, a, none⟩) n c)).run P w = .ok (.string ⟨((l.drop a).take n).toArray⟩) w := by
  have hl : ((l.drop a).take n).length = n := by rw [List.length_take, List.length_drop]; omega
  have := run_convert_bytes_back (P := P) w src dst e ⟨k, a, none⟩ c ((l.drop a).take n) hs he hd fun j hj => by
    have hj' : j < n := by omega
    have e0 : (⟨k, a, none⟩ : Addr).add j = ⟨k, a + j, none⟩ := by unfold Addr.add; split <;> simp_all
    rw [e0, (h (a + j) (by omega)).1]
    simp
  rw [hl] at this; exact this

set_option maxRecDepth 100000 in
set_option maxHeartbeats 2000000 in
theorem zget (w : World) (base g f : Nat) (rows : List Ln) (hf : 1 ≤ f ∧ f ≤ 3) (h : SheetAt w base g f rows) (hL : Zn.Shaped f (Ln.txt rows)) (i : Nat) (hi : i < 15) :
    Calls Tryz.prog 57 #[.pointer (some ⟨g, 0, none⟩), .int .i64 i] w fun e w' => e = .returned (.string ⟨(Zn.fld f (Ln.txt rows) i).toArray⟩) ∧ Below w.heap.size w w' := by
  obtain ⟨v, hs, hl, hgb⟩ := h
  obtain ⟨e0, e1, e2⟩ := Zn.lay_at f hf i hi
  obtain ⟨hp1, hp2⟩ := Zn.place_in f hf i hi
  have hsz := Zn.lay_size f
  have c0 := (hs.cell (3 * i) (by omega)).trans e0
  have c1 := (hs.cell (3 * i + 1) (by omega)).trans e1
  have c2 := (hs.cell (3 * i + 2) (by omega)).trans e2
  have c45 := hs.last
  rw [hsz] at c45
  have hlen : rows.length = Zn.nLines f := by have := hL.1; unfold Ln.txt at this; rwa [List.length_map] at this
  have hnl : Zn.nLines f ≤ 3 ∧ 2 ≤ Zn.nLines f := by unfold Zn.nLines; split <;> omega
  obtain ⟨b, c, rfl, hb1, hb2, hc1, hc2, hline⟩ := hl.line (by omega)
  obtain ⟨hcell, hbytes, hcap, hblk⟩ := hline (Zn.place f i).1 (by omega)
  have hll : rows[(Zn.place f i).1].2.2.length = Zn.wLine f := hL.2 _ (by unfold Ln.txt; exact List.mem_map.2 ⟨_, List.getElem_mem _, rfl⟩)
  have hfl : Zn.fld f (Ln.txt rows) i = (rows[(Zn.place f i).1].2.2.drop (Zn.place f i).2.1).take (Zn.place f i).2.2 := by
    unfold Zn.fld Ln.txt
    congr 2
    rw [List.getD_eq_getElem?_getD, List.getElem?_map, List.getElem?_eq_getElem (by omega)]; rfl
  have hwl : Zn.wLine f ≤ 44 := by unfold Zn.wLine; split; · omega
                                   split <;> omega
  unfold Ln.val at hcell
  generalize rows[(Zn.place f i).1] = r at hcell hbytes hcap hblk hll hfl
  obtain ⟨k, cp, l⟩ := r
  simp only at hcell hbytes hcap hblk hll hfl
  rw [hll] at hcell hcap
  generalize Zn.place f i = pl at *
  obtain ⟨ln, at_, wd⟩ := pl
  simp only at *
  clear hline hsz e0 e1 e2 hL
  rw [Nat.mul_comm] at c0 c1 c2
  have hf0 := below_alloc1 w (.cells #[.int .i64 ln, .int .i64 at_, .int .i64 wd] 81)
  rw [hfl]
  rcases Nat.eq_zero_or_pos wd with h0 | h0
  · subst h0
    rw [List.take_zero]
    have HBL := Lib.hid hf0
    clear hfl hbytes hf0
    have e1 : (((0 : Nat) : Int) == 0) = true := rfl
    go_enter Tryz.func57, Tryz.ntmps57
    go_wp2_with fail
    go_ret
    exact ⟨rfl, HBL.out⟩
  have hcv0 := fun (W : World) (hW : BytesAt W k l) => drop_bytes (P := Tryz.prog) hW at_ wd (by omega) (cp - at_) 59 9 5 Tryz.underlying59 Tryz.underlying5 Tryz.underlying9
  have hby2 := hbytes.later hf0 hblk
  have hcv := fun n => hcv0 ((w.alloc (.cells #[.int .i64 ln, .int .i64 at_, .int .i64 wd] 81)).drewN n) (hby2.drewN n)
  generalize hres : (⟨((l.drop at_).take wd).toArray⟩ : ByteArray) = res at hcv
  have HBL := Lib.hid hf0; have HCV := Lib.hid hcv
  clear hres hfl hbytes hf0 hcv0 hby2 hcv
  have e1 : ((wd : Int) == 0) = false := by rw [beq_eq_false_iff_ne]; omega
  have e2 : IntKind.i64.wrap ((at_ : Int) + (wd : Int)) = (at_ : Int) + (wd : Int) := IntWalk.i64_in _ (by omega)
  go_enter Tryz.func57, Tryz.ntmps57
  go_upto_region 4 with fail
  have hcv := HCV.out
  have a45 := cell_later HBL.out c45
  have aln := cell_later HBL.out hcell
  have b0 : (w.alloc (.cells #[.int .i64 ln, .int .i64 at_, .int .i64 wd] 81)).cell? ⟨w.heap.size, 0, none⟩ = some (.int .i64 ln) := cell_new w _ _ 0
  have b1 : (w.alloc (.cells #[.int .i64 ln, .int .i64 at_, .int .i64 wd] 81)).cell? ⟨w.heap.size, 1, none⟩ = some (.int .i64 at_) := cell_new w _ _ 1
  have b2 : (w.alloc (.cells #[.int .i64 ln, .int .i64 at_, .int .i64 wd] 81)).cell? ⟨w.heap.size, 2, none⟩ = some (.int .i64 wd) := cell_new w _ _ 2
  clear HCV c0 c1 c2 c45 hcell
  generalize w.alloc (.cells #[.int .i64 ln, .int .i64 at_, .int .i64 wd] 81) = w1 at *
  go_quiet (fail)
  go_wp2_with fail
  go_ret
  exact ⟨rfl, below_drewN HBL.out _⟩
end Go.Proofs.YtafbhadfeemppaaGreatDoor
