/- Chapter 11: the walk of Build of the program. -/
import Derived.Test.YtafbhadfeemppaaGreatDoorZonGP
import Derived.Test.YtafbhadfeemppaaGreatDoorZonGM
import Derived.Test.YtafbhadfeemppaaGreatDoorZonParseW
import Derived.Deep.CutRange
import Derived.Deep.AppendLies
namespace Go.Proofs.YtafbhadfeemppaaGreatDoor
open Go.RowKit Go.Maps

theorem below_undrew {w w' : World} (h : Below w.drew.heap.size w.drew w') : Below w.heap.size w w' := ((Below.refl w.heap.size w).drew).trans h
theorem ZV.keep {w W W' : World} {z : Zn.Z} {M : Array Value} {g g8 : Nat} (h : ZV w z M g W) (hb : Below g8 W W') (h1 : w.heap.size < g8) (h2 : g < g8) : ZV w z M g W' :=
  ⟨(hb.block _ h1).trans h.1, (hb.block _ h2).trans h.2.1, ⟨hb.os.trans h.2.2.os, hb.tape.trans h.2.2.tape, hb.output.trans h.2.2.output, Nat.le_trans h.2.2.size hb.size, fun b hlt => (hb.block b (Nat.lt_of_lt_of_le hlt (Nat.le_of_lt h1))).trans (h.2.2.block b hlt)⟩⟩
/-- What the first loop of Build has done. -/
def BLn (w : World) (z : Zn.Z) (M : Array Value) (g5 g8 wl k : Nat) (W : World) : Prop :=
  ZV w z M g5 W ∧ ∃ v rows, SheetIs W g8 M v ∧ LinesAt W (g8 + 1) v rows ∧ Ln.txt rows = List.replicate k (List.replicate wl 60) ∧ g8 + 1 ≤ W.heap.size ∧ g5 < g8 ∧ w.heap.size < g5
theorem fold1 : Array.foldl (fun (cs : Array Value) (x : Value × Nat) => cs.setIfInBounds x.snd x.fst) #[.int .i64 0, .int .i64 0, .int .i64 0, .int .i64 0, .int .i64 0, .int .i64 0, .int .i64 0, .int .i64 0, .int .i64 0, .int .i64 0, .int .i64 0, .int .i64 0, .int .i64 0, .int .i64 0, .int .i64 0, .int .i64 0, .int .i64 0, .int .i64 0, .int .i64 0, .int .i64 0, .int .i64 0, .int .i64 0, .int .i64 0, .int .i64 0, .int .i64 0, .int .i64 0, .int .i64 0, .int .i64 0, .int .i64 0, .int .i64 0, .int .i64 0, .int .i64 0, .int .i64 0, .int .i64 0, .int .i64 0, .int .i64 0, .int .i64 0, .int .i64 0, .int .i64 0, .int .i64 0, .int .i64 0, .int .i64 0, .int .i64 0, .int .i64 0, .int .i64 0, .slice none 0 0] (Zn.lay 1).zipIdx 0 45 = (Zn.lay 1).push (.slice none 0 0) := by kernel_rfl
theorem fold2 : Array.foldl (fun (cs : Array Value) (x : Value × Nat) => cs.setIfInBounds x.snd x.fst) #[.int .i64 0, .int .i64 0, .int .i64 0, .int .i64 0, .int .i64 0, .int .i64 0, .int .i64 0, .int .i64 0, .int .i64 0, .int .i64 0, .int .i64 0, .int .i64 0, .int .i64 0, .int .i64 0, .int .i64 0, .int .i64 0, .int .i64 0, .int .i64 0, .int .i64 0, .int .i64 0, .int .i64 0, .int .i64 0, .int .i64 0, .int .i64 0, .int .i64 0, .int .i64 0, .int .i64 0, .int .i64 0, .int .i64 0, .int .i64 0, .int .i64 0, .int .i64 0, .int .i64 0, .int .i64 0, .int .i64 0, .int .i64 0, .int .i64 0, .int .i64 0, .int .i64 0, .int .i64 0, .int .i64 0, .int .i64 0, .int .i64 0, .int .i64 0, .int .i64 0, .slice none 0 0] (Zn.lay 2).zipIdx 0 45 = (Zn.lay 2).push (.slice none 0 0) := by kernel_rfl
theorem fold3 : Array.foldl (fun (cs : Array Value) (x : Value × Nat) => cs.setIfInBounds x.snd x.fst) #[.int .i64 0, .int .i64 0, .int .i64 0, .int .i64 0, .int .i64 0, .int .i64 0, .int .i64 0, .int .i64 0, .int .i64 0, .int .i64 0, .int .i64 0, .int .i64 0, .int .i64 0, .int .i64 0, .int .i64 0, .int .i64 0, .int .i64 0, .int .i64 0, .int .i64 0, .int .i64 0, .int .i64 0, .int .i64 0, .int .i64 0, .int .i64 0, .int .i64 0, .int .i64 0, .int .i64 0, .int .i64 0, .int .i64 0, .int .i64 0, .int .i64 0, .int .i64 0, .int .i64 0, .int .i64 0, .int .i64 0, .int .i64 0, .int .i64 0, .int .i64 0, .int .i64 0, .int .i64 0, .int .i64 0, .int .i64 0, .int .i64 0, .int .i64 0, .int .i64 0, .slice none 0 0] (Zn.lay 3).zipIdx 0 45 = (Zn.lay 3).push (.slice none 0 0) := by kernel_rfl
theorem fold_lay (F : Nat) (h : 1 ≤ F ∧ F ≤ 3) : Array.foldl (fun (cs : Array Value) (x : Value × Nat) => cs.setIfInBounds x.snd x.fst) #[.int .i64 0, .int .i64 0, .int .i64 0, .int .i64 0, .int .i64 0, .int .i64 0, .int .i64 0, .int .i64 0, .int .i64 0, .int .i64 0, .int .i64 0, .int .i64 0, .int .i64 0, .int .i64 0, .int .i64 0, .int .i64 0, .int .i64 0, .int .i64 0, .int .i64 0, .int .i64 0, .int .i64 0, .int .i64 0, .int .i64 0, .int .i64 0, .int .i64 0, .int .i64 0, .int .i64 0, .int .i64 0, .int .i64 0, .int .i64 0, .int .i64 0, .int .i64 0, .int .i64 0, .int .i64 0, .int .i64 0, .int .i64 0, .int .i64 0, .int .i64 0, .int .i64 0, .int .i64 0, .int .i64 0, .int .i64 0, .int .i64 0, .int .i64 0, .int .i64 0, .slice none 0 0] (Zn.lay F).zipIdx 0 45 = (Zn.lay F).push (.slice none 0 0) := by
  have h3 : F = 1 ∨ F = 2 ∨ F = 3 := by omega
  rcases h3 with rfl | rfl | rfl
  · exact fold1
  · exact fold2
  · exact fold3
/-- What Build leaves. -/
def BldPost (z : Zn.Z) (w : World) (e : Ending) (w' : World) : Prop :=
  ∃ v, e = .returned (.tuple #[v, .int .i64 (Zn.vldE z)]) ∧ (Zn.vldE z ≠ 0 → v = .slice none 0 0) ∧ (Zn.vldE z = 0 → w'.ownsRow w.heap.size 9 1 v (Zn.bldK z).length ((Zn.bldK z).map .string)) ∧ Below w.heap.size w w'
theorem BldPost.no {z : Zn.Z} {w w' : World} {vE : Int} (h : vE ≠ 0) (hE : Zn.vldE z = vE) (hb : Below w.heap.size w w') : BldPost z w (.returned (.tuple #[.slice none 0 0, .int .i64 vE])) w' :=
  ⟨_, by rw [hE], fun _ => rfl, fun h0 => absurd (hE.symm.trans h0) h, hb⟩
theorem BldPost.yes {z : Zn.Z} {w w' : World} {v : Value} (hE : Zn.vldE z = 0) (h : w'.ownsRow w.heap.size 9 1 v (Zn.bldK z).length ((Zn.bldK z).map .string)) (hb : Below w.heap.size w w') : BldPost z w (.returned (.tuple #[v, .int .i64 0])) w' :=
  ⟨_, by rw [hE], fun h0 => absurd hE h0, fun _ => h, hb⟩
theorem ownsRow_base {w : World} {base b0 e size n : Nat} {v : Value} {xs : List Value} (h : w.ownsRow base e size v n xs) (hb : b0 ≤ base) : w.ownsRow b0 e size v n xs := by
  refine ⟨h.1, ?_⟩
  rcases h.2 with h | ⟨g, cap, cur, h0, h1, h2⟩
  · exact .inl h
  · exact .inr ⟨g, cap, cur, h0, Nat.le_trans hb h1, h2⟩
theorem build_grow {w wr w1 : World} {E k : Nat} {o : Value} {xs : List Value} (h : Below w.heap.size w wr) (ho : wr.ownsRow w.heap.size E 1 o k xs) (ob : Obj) (hg : (wr.alloc ob).grownBy w1 o.ownBlock) : Below w.heap.size w w1 := by
  have h1 := (h.alloc h.size ob).grown hg (by simp; exact Nat.le_succ_of_le h.size) (fun j hj => (ho.lt j hj).1)
  exact h1
theorem Zn.bld_of {z : Zn.Z} {F : Nat} {F7 : Nat → List UInt8} {rows : List Ln} (h : F7 = Zn.bldF F z) (hr : Ln.txt rows = Zn.asm F F7) (hf : z.fmt = F) : rows.map (fun r => Value.string ⟨r.2.2.toArray⟩) = (Zn.bldK z).map .string ∧ rows.length = (Zn.bldK z).length := by
  have e : z.fmt.toNat = F := by rw [hf]; rfl
  have e2 : Zn.bldK z = rows.map fun r => ⟨r.2.2.toArray⟩ := by
    unfold Zn.bldK Zn.bld
    rw [e, ← h, ← hr]
    unfold Ln.txt
    rw [List.map_map]; rfl
  rw [e2, List.map_map, List.length_map]
  exact ⟨rfl, rfl⟩
theorem build_own {w wi wr : World} {z : Zn.Z} {rows : List Ln} {o : Value} (hb : Below w.heap.size w wi) (h : wr.ownsRow wi.heap.size 9 1 o rows.length ((rows.take rows.length).map fun r => Value.string ⟨r.2.2.toArray⟩))
    (hz : rows.map (fun r => Value.string ⟨r.2.2.toArray⟩) = (Zn.bldK z).map .string ∧ rows.length = (Zn.bldK z).length) : wr.ownsRow w.heap.size 9 1 o (Zn.bldK z).length ((Zn.bldK z).map .string) := by
  rw [List.take_length, hz.1, hz.2] at h
  exact ownsRow_base h hb.size
theorem Tryz.infoS : (Tryz.prog.info? 9).map (fun i => (i.zero, i.size, i.bytes)) = some (some (.string ⟨#[]⟩), 1, 16) := by kernel_rfl
def BD (w : World) (z : Zn.Z) (M : Array Value) (g5 g8 F : Nat) (Fn : Nat → List UInt8) (W : World) : Prop := ZV w z M g5 W ∧ ∃ rows, SheetAt W (g8 + 1) g8 F rows ∧ Ln.txt rows = Zn.asm F Fn ∧ g5 < g8 ∧ w.heap.size < g5
theorem BD.later {w W W' : World} {z : Zn.Z} {M : Array Value} {g5 g8 F : Nat} {Fn : Nat → List UInt8} (h : BD w z M g5 g8 F Fn W) (hb : Below W.heap.size W W') : BD w z M g5 g8 F Fn W' := by
  obtain ⟨h1, rows, h2, h3⟩ := h
  exact ⟨h1.later hb, rows, h2.later hb, h3⟩
theorem Zn.asm_fill (F : Nat) (h : 1 ≤ F ∧ F ≤ 3) : Zn.asm F (fun i => List.replicate (Zn.wd F i) 60) = List.replicate (Zn.nLines F) (List.replicate (Zn.wLine F) 60) := by
  have h3 : F = 1 ∨ F = 2 ∨ F = 3 := by omega
  rcases h3 with rfl | rfl | rfl <;> rfl
theorem conv_line2 (w : World) (s : ByteArray) : ∃ W cap, Sem.run Tryz.prog (convert 9 59 (.string s)) w = .ok (.slice (some ⟨w.heap.size, 0, none⟩) s.size cap) W ∧ (Below w.heap.size w W ∧ W.heap.size = w.heap.size + 1 ∧ BytesAt W w.heap.size s.data.toList ∧ s.size ≤ cap) := by
  obtain ⟨W, cap, h1, h2⟩ := conv_line w s
  exact ⟨W, cap, h1, h2⟩

theorem build_step {w : World} {z : Zn.Z} {M : Array Value} {g5 g8 wl k : Nat} {wr w3 W0 w4 : World} {v : Value} {rows : List Ln} {FI : ByteArray} {cap gq capq : Nat} (hM : M.size = 45)
    (hv : ZV w z M g5 wr) (hs : SheetIs wr g8 M v) (hl : LinesAt wr (g8 + 1) v rows) (ht : Ln.txt rows = List.replicate k (List.replicate wl 60)) (hg : g8 + 1 ≤ wr.heap.size) (h58 : g5 < g8) (hw5 : w.heap.size < g5)
    (hFI : FI.data.toList = List.replicate wl 60) (hb : Below wr.heap.size wr w3) (hc : Below w3.heap.size w3 W0 ∧ W0.heap.size = w3.heap.size + 1 ∧ BytesAt W0 w3.heap.size FI.data.toList ∧ FI.size ≤ cap)
    (hown : w4.ownsRow (g8 + 1) 59 1 (.slice (some ⟨gq, 0, none⟩) (rows.length + 1) capq) (rows.length + 1) (rows.map Ln.val ++ [.slice (some ⟨w3.heap.size, 0, none⟩) FI.size cap]))
    (hgrow : (W0.alloc (.cells #[.slice (some ⟨w3.heap.size, 0, none⟩) FI.size cap] 59)).grownBy w4 v.ownBlock) (hat : v.ownBlock = some gq ∨ gq = (W0.alloc (.cells #[.slice (some ⟨w3.heap.size, 0, none⟩) FI.size cap] 59)).heap.size) :
    BLn w z M g5 g8 wl (k + 1) (w4.setCell ⟨g8, 45, none⟩ (.slice (some ⟨gq, 0, none⟩) (rows.length + 1) capq)) ∧ w4.cell? ⟨g8, 45, none⟩ = some v ∧ w4.frozen? ⟨g8, 45, none⟩ = false := by
  have hba := below_alloc1 W0 (.cells #[.slice (some ⟨w3.heap.size, 0, none⟩) FI.size cap] 59)
  have hv3 := hv.later hb
  have hst := lines_step (M := M) (l := FI.data.toList) (k := w3.heap.size) (cp := cap) (hs.later hb) (hl.later hb) (Nat.lt_succ_self g8) hv3.1 (by omega) (Nat.le_trans hg hb.size) (hc.1.trans (hba.mono hc.1.size)) rfl
    (by rw [size_alloc1]; omega) (hc.2.2.1.later hba (by omega)) (by rw [Opt.size_len]; exact hc.2.2.2) (by rw [Opt.size_len]; exact hown) hgrow (by
      rcases hat with h | h
      · exact .inl (by show some gq = _; exact h.symm)
      · exact .inr (by show some gq = _; rw [h]))
  rw [hM] at hst
  obtain ⟨q1, q2, q3, q4, q5, q6⟩ := hst
  have hb8 := q6 g8 w3 (Below.refl g8 w3) (Nat.le_refl g8)
  refine ⟨⟨hv3.keep hb8 (by omega) h58, _, _, q1, q2, ?_, q1.lt, h58, hw5⟩, q4, q5⟩
  unfold Ln.txt at *
  rw [List.map_append, ht, List.replicate_succ']
  show _ ++ [FI.data.toList] = _
  rw [hFI]
theorem nmV_len (a b : List UInt8) (n : Int) : (Opt.nmV a b n).length ≤ n.toNat := by
  unfold Opt.nmV
  split
  · exact Nat.zero_le _
  · rw [List.length_take]; omega
theorem zwd_le (F : Nat) (h : 1 ≤ F ∧ F ≤ 3) : Zn.wd F 2 ≤ 64 := by
  have h3 : F = 1 ∨ F = 2 ∨ F = 3 := by omega
  rcases h3 with rfl | rfl | rfl <;> decide
end Go.Proofs.YtafbhadfeemppaaGreatDoor
