/- Chapter 11: a line appended to a sheet; the places of a layout stored into a sheet; results that hold a zone. -/
import Derived.Test.YtelngghecmkipaaGreatDoorZonGN
import Derived.Test.YtelngghecmkipaaGreatDoorZonFormat
import Derived.Maps.AppendAt
namespace Go.Proofs.YtelngghecmkipaaGreatDoor
open Go.RowKit

theorem Tryz.infoB : (Tryz.prog.info? 41).map (fun i => (i.zero, i.size, i.bytes)) = some (some (.slice none 0 0), 1, 24) := by kernel_rfl
theorem Tryz.infoZone : (Tryz.prog.info? 24).map (·.size) = some 12 := by kernel_rfl
theorem SheetIs.setLast {w : World} {g : Nat} {M : Array Value} {v : Value} (h : SheetIs w g M v) (u : Value) : SheetIs (w.setCell ⟨g, M.size, none⟩ u) g M u := by
  unfold SheetIs at *
  rw [heap_setCell_same w g M.size _ _ u h]
  congr 2
  apply Array.ext
  · simp
  · intro i h1 h2
    simp only [Array.size_setIfInBounds, Array.size_push] at h1
    rw [Array.getElem_setIfInBounds (by simpa using h1)]
    split
    · rename_i e; subst e; simp
    · rename_i e; rw [Array.getElem_push_lt (by omega), Array.getElem_push_lt (by omega)]
theorem SheetIs.free {w : World} {g : Nat} {M : Array Value} {v : Value} (h : SheetIs w g M v) (i : Nat) : w.frozen? ⟨g, i, none⟩ = false := frozen_of_row w g i _ _ h
theorem SheetIs.grown {w w' : World} {g : Nat} {M : Array Value} {v : Value} {row : Option Nat} (h : SheetIs w g M v) (hg : w.grownBy w' row) (hr : row ≠ some g) : SheetIs w' g M v := (hg.block g h.lt (fun e => hr e.symm)).trans h
theorem ZBox.grown {w w' : World} {g : Nat} {z : Zn.Z} {row : Option Nat} (h : ZBox w g z) (hg : w.grownBy w' row) (hr : row ≠ some g) : ZBox w' g z := (hg.block g h.lt (fun e => hr e.symm)).trans h
theorem ZBox.setOther {w : World} {g : Nat} {z : Zn.Z} (h : ZBox w g z) {p : Addr} (hp : g ≠ p.block) (v : Value) : ZBox (w.setCell p v) g z := (Below.heap_setCell _ _ _ _ hp).trans h
theorem BytesAt.grown {w w' : World} {k : Nat} {l : List UInt8} {row : Option Nat} (h : BytesAt w k l) (hg : w.grownBy w' row) (hr : row ≠ some k) (hk : k < w.heap.size) : BytesAt w' k l := fun i hi =>
  have e : w'.heap[k]? = w.heap[k]? := hg.block k hk (fun e => hr e.symm)
  ⟨(World.cell?_of_block (a := ⟨k, i, none⟩) e).trans (h i hi).1, (World.frozen?_of_block (a := ⟨k, i, none⟩) e).trans (h i hi).2⟩
theorem BytesAt.setOther {w : World} {k : Nat} {l : List UInt8} (h : BytesAt w k l) {p : Addr} (hp : k ≠ p.block) (v : Value) : BytesAt (w.setCell p v) k l := fun i hi =>
  have e : (w.setCell p v).heap[k]? = w.heap[k]? := Below.heap_setCell _ _ _ _ hp
  ⟨(World.cell?_of_block (a := ⟨k, i, none⟩) e).trans (h i hi).1, (World.frozen?_of_block (a := ⟨k, i, none⟩) e).trans (h i hi).2⟩

/-- Behind an append of one line to a sheet. -/
theorem lines_step {wr w3 w4 : World} {base g g0 : Nat} {M : Array Value} {v v' : Value} {z : Zn.Z} {rows : List Ln} {k cp : Nat} {l : List UInt8}
    (hs : SheetIs wr g M v) (hl : LinesAt wr base v rows) (hgb : g < base) (hz : ZBox wr g0 z) (hzg : g0 < g) (hb : base ≤ wr.heap.size)
    (hb3 : Below wr.heap.size wr w3) (hk : k = wr.heap.size) (hk3 : k < w3.heap.size) (hby : BytesAt w3 k l) (hcp : l.length ≤ cp)
    (hown : w4.ownsRow base 41 1 v' (rows.length + 1) (rows.map Ln.val ++ [.slice (some ⟨k, 0, none⟩) l.length cp])) (hgrow : w3.grownBy w4 v.ownBlock)
    (hloc : v'.ownBlock = v.ownBlock ∨ v'.ownBlock = some w3.heap.size) :
    SheetIs (w4.setCell ⟨g, M.size, none⟩ v') g M v' ∧ LinesAt (w4.setCell ⟨g, M.size, none⟩ v') base v' (rows ++ [(k, cp, l)]) ∧ ZBox (w4.setCell ⟨g, M.size, none⟩ v') g0 z ∧ w4.cell? ⟨g, M.size, none⟩ = some v ∧ w4.frozen? ⟨g, M.size, none⟩ = false ∧
    ∀ B w, Below B w wr → B ≤ g → Below B w (w4.setCell ⟨g, M.size, none⟩ v') := by
  have hv : ∀ b, v.ownBlock = some b → base ≤ b ∧ b < wr.heap.size := hl.1.lt
  have hne : ∀ b, b < base → v.ownBlock ≠ some b := fun b h e => by have := (hv b e).1; omega
  have hs4 : SheetIs w4 g M v := (hs.later hb3).grown hgrow (hne g hgb)
  have hsz3 := hb3.size
  have hsz4 := hgrow.size
  have h0 : 0 < base := by omega
  refine ⟨hs4.setLast v', ⟨?_, ?_, fun r hr => ?_⟩, ((hz.later hb3).grown hgrow (hne g0 (by omega))).setOther (by show g0 ≠ g; omega) _, hs4.last, hs4.free _, fun B w hB hBg => ?_⟩
  · have := ownsRow_setCell_below hown (a := ⟨g, M.size, none⟩) hgb v'
    rw [List.length_append, List.map_append]
    exact this
  · rw [List.map_append]
    refine List.nodup_append.2 ⟨hl.2.1, by simp, fun a ha b hbm => ?_⟩
    simp only [List.map_cons, List.map_nil, List.mem_singleton] at hbm
    obtain ⟨r, hr, rfl⟩ := List.mem_map.1 ha
    have := (hl.2.2 r hr).2.1
    omega
  · have hset : ∀ {x : Nat} {y : List UInt8}, x ≠ g → BytesAt w4 x y → BytesAt (w4.setCell ⟨g, M.size, none⟩ v') x y := fun hx h => h.setOther (by exact hx) _
    have hsz : (w4.setCell ⟨g, M.size, none⟩ v').heap.size = w4.heap.size := by simp [World.setCell]
    rw [hsz]
    rcases List.mem_append.1 hr with hr | hr
    · obtain ⟨h1, h2, h3, h4, h5⟩ := hl.2.2 r hr
      refine ⟨h1, by omega, fun e => ?_, h4, hset (by omega) ((h5.later hb3 h2).grown hgrow h3 (by omega))⟩
      rcases hloc with h | h
      · exact h3 (h.symm.trans e)
      · have := h.symm.trans e; injection this with this; omega
    · rw [List.mem_singleton] at hr
      subst hr
      refine ⟨by show base ≤ k; omega, by show k < _; omega, fun e => ?_, hcp, hset (by show k ≠ g; omega) (hby.grown hgrow (fun e => by have := (hv _ e).2; omega) hk3)⟩
      rcases hloc with h | h
      · have := (hv _ (h.symm.trans e)).2
        change k < wr.heap.size at this; omega
      · have := h.symm.trans e
        injection this with this
        change w3.heap.size = k at this; omega
  · have h1 := hB.trans (hb3.mono (show B ≤ wr.heap.size by omega))
    have h2 := h1.grown hgrow (show B ≤ w3.heap.size by omega) (fun j hj => by have := (hv j hj).1; omega)
    exact h2.setCell (p := ⟨g, M.size, none⟩) hBg v'

/-- The places of a layout, stored into a sheet whose lines are none. -/
theorem places_new (w2 : World) (g : Nat) (M M0 : Array Value) (v : Value) (hM : M.size = 45) (hM0 : M0.size = 45) (h1 : M.all (·.oneCell') = true) (hs : SheetIs w2 g M0 v) :
    ∃ w3, Sem.run Tryz.prog (storeCells ⟨g, 0, none⟩ M.toList) w2 = .ok () w3 ∧ SheetIs w3 g M v ∧ w3.heap.size = w2.heap.size ∧ (∀ b, b ≠ g → w3.heap[b]? = w2.heap[b]?) ∧ ∀ B w, Below B w w2 → B ≤ g → Below B w w3 := by
  have hst := run_storeCells_at Tryz.prog g 0 59 M.toList 0 (M0.push v) w2 hs (by simp [hM, hM0]) (fun v hv => (Array.all_eq_true_iff_forall_mem.1 h1) v (by simpa using hv))
  refine ⟨_, hst, ?_, size_setRow _ _ _, fun b hb => ?_, fun B w hB hg => below_setRow2 hB hg⟩
  · unfold SheetIs
    rw [setRow_heap _ _ _ _ _ _ hs]
    congr 2
    simp [hM, hM0]
    apply Array.toList_inj.1
    simp
  · unfold World.setRow
    rw [Array.getElem?_modify, if_neg (fun e => hb e.symm)]
end Go.Proofs.YtelngghecmkipaaGreatDoor
