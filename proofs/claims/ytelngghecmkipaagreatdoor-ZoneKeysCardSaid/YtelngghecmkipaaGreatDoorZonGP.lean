/- Chapter 11: several texts in one (ZonPut0, ZonPut). -/
import Derived.Test.YtelngghecmkipaaGreatDoorTake
import Derived.Test.YtelngghecmkipaaGreatDoorZonLines
import Derived.Test.YtelngghecmkipaaGreatDoorOptNames3
import Derived.Lib.LazyBuf
import Derived.Deep.RegionHeld3
import Derived.IntWalk
import Derived.Test.YtelngghecmkipaaGreatDoorZonSheet2
namespace Go.Proofs.YtelngghecmkipaaGreatDoor
open Go.RowKit

namespace Zn
/-- What is written into a field: the text, fillers behind it. -/
def wide_ (t : List UInt8) (n : Nat) : List UInt8 := (t ++ List.replicate n 60).take n
theorem wide_len (t : List UInt8) (n : Nat) : (wide_ t n).length = n := by unfold wide_; rw [List.length_take, List.length_append, List.length_replicate]; omega
/-- A line with a field written. -/
def over (l : List UInt8) (a : Nat) (x : List UInt8) : List UInt8 := l.take a ++ (x ++ l.drop (a + x.length))
theorem over_len (l : List UInt8) (a : Nat) (x : List UInt8) (h : a + x.length ≤ l.length) : (over l a x).length = l.length := by
  unfold over; simp only [List.length_append, List.length_take, List.length_drop]; omega
/-- Lines with a field written. -/
def putL (f : Nat) (L : List (List UInt8)) (i : Nat) (t : List UInt8) : List (List UInt8) :=
  L.set (place f i).1 (over (L.getD (place f i).1 []) (place f i).2.1 (wide_ t (place f i).2.2))
end Zn

theorem over_get (l : List UInt8) (a : Nat) (x : List UInt8) (h : a + x.length ≤ l.length) (j : Nat) (hj : j < (Zn.over l a x).length) :
    (a ≤ j ∧ j < a + x.length → ∃ h', (Zn.over l a x)[j] = x[j - a]'(h')) ∧ (¬ (a ≤ j ∧ j < a + x.length) → ∃ h', (Zn.over l a x)[j] = l[j]'(h')) := by
  have hl := Zn.over_len l a x h
  unfold Zn.over at *
  constructor
  · rintro ⟨h1, h2⟩
    refine ⟨by omega, ?_⟩
    rw [List.getElem_append_right (by rw [List.length_take]; omega), List.getElem_append_left (by rw [List.length_take]; omega)]
    congr 1
    rw [List.length_take]; omega
  · intro hn
    refine ⟨by omega, ?_⟩
    rcases Nat.lt_or_ge j a with g | g
    · rw [List.getElem_append_left (by rw [List.length_take]; omega), List.getElem_take]
    · rw [List.getElem_append_right (by rw [List.length_take]; omega), List.getElem_append_right (by rw [List.length_take]; omega), List.getElem_drop]
      congr 1
      rw [List.length_take]; omega
theorem BytesAt.over {w : World} {k : Nat} {l : List UInt8} (hb : BytesAt w k l) (a : Nat) (x : List UInt8) (h : a + x.length ≤ l.length) : BytesAt (w.setCells k a (BL x)) k (Zn.over l a x) := by
  intro j hj
  have hl := Zn.over_len l a x h
  obtain ⟨hin, hout⟩ := over_get l a x h j hj
  refine ⟨?_, by rw [World.frozen?_setCells]; exact (hb j (by omega)).2⟩
  by_cases hc : a ≤ j ∧ j < a + x.length
  · obtain ⟨h', e⟩ := hin hc
    have := World.cell?_setCells_in k (BL x) a w (fun i hi => by rw [BL_length] at hi; rw [(hb (a + i) (by omega)).1]; rfl) (j - a) (by rw [BL_length]; omega)
    rw [show a + (j - a) = j by omega] at this
    rw [this, e]
    simp [BL]
  · obtain ⟨h', e⟩ := hout hc
    rw [World.cell?_setCells_out k (BL x) a w ⟨k, j, none⟩ (fun _ _ => by rw [BL_length]; show j < a ∨ a + x.length ≤ j; omega), (hb j h').1, e]

theorem heap_setCells_ne (g : Nat) : ∀ (vs : List Value) (o : Nat) (w : World) (i : Nat), i ≠ g → (w.setCells g o vs).heap[i]? = w.heap[i]?
  | [], _, _, _, _ => rfl
  | v :: r, o, w, i, h => by rw [World.setCells, heap_setCells_ne g r (o + 1) _ i h]; exact Below.heap_setCell _ _ _ _ (by exact h)
theorem size_setCells (g : Nat) : ∀ (vs : List Value) (o : Nat) (w : World), (w.setCells g o vs).heap.size = w.heap.size
  | [], _, _ => rfl
  | v :: r, o, w => by rw [World.setCells, size_setCells g r (o + 1)]; simp [World.setCell]
theorem below_cells0 {B b : Nat} {a : World} (hb : B ≤ b) : ∀ (vs : List Value) (o : Nat) (w : World), Below B a w → Below B a (w.setCells b o vs)
  | [], _, _, h => h
  | v :: r, o, w, h => below_cells0 hb r (o + 1) _ (h.setCell (by exact hb) v)
theorem grown_setCells (w : World) (g o : Nat) (vs : List Value) : w.grownBy (w.setCells g o vs) (some g) :=
  have h : Below 0 w (w.setCells g o vs) := below_cells0 (Nat.zero_le _) vs o w (Below.refl 0 w)
  ⟨h.os, h.tape, h.output, by rw [size_setCells]; exact Nat.le_refl _, fun k _ hk => heap_setCells_ne g vs o w k (fun e => hk (by rw [e]))⟩
theorem grown_of_below {w w' : World} (h : Below w.heap.size w w') (row : Option Nat) : w.grownBy w' row := ⟨h.os, h.tape, h.output, h.size, fun k hk _ => h.block k hk⟩
theorem grown_trans {w w' w'' : World} {row : Option Nat} (h : w.grownBy w' row) (h' : w'.grownBy w'' row) : w.grownBy w'' row :=
  ⟨h'.os.trans h.os, h'.tape.trans h.tape, h'.output.trans h.output, Nat.le_trans h.size h'.size, fun k hk hr => (h'.block k (Nat.lt_of_lt_of_le hk h.size) hr).trans (h.block k hk hr)⟩

/-- 'copy(dst, s)', s A STRING at least as long as dst. -/
theorem run_copy_cut {P : Program} (w : World) (dT sT ty elem : TypeId) (b o dLen dCap : Nat) (t : ByteArray) (x : List UInt8)
    (hu : P.underlying dT = some (.slice elem)) (hz : ∀ w, (Go.sizeOf elem).run P w = .ok 1 w) (hle : dLen ≤ t.size) (hx : x = t.data.toList.take dLen)
    (hc : ∀ j, j < dLen → (w.cell? ⟨b, o + j, none⟩).isSome = true) (hf : ∀ j, j < dLen → w.frozen? ⟨b, o + j, none⟩ = false) :
    (Builtin.copy_ #[dT, sT] ty #[.slice (some ⟨b, o, none⟩) dLen dCap, .string t]).run P w = .ok (goInt dLen) (w.setCells b o (BL x)) := by
  have hmin : Nat.min t.size dLen = dLen := Nat.min_eq_right hle
  have hl : (BL x).length = dLen := by rw [BL_length, hx, List.length_take, Opt.size_len]; omega
  have hst := run_storeCells_cells (P := P) b o (BL x) 0 w (by rw [hl]; simpa using hc) (by rw [hl]; simpa using hf) (BL_one x)
  simp [Builtin.copy_, run_underlying hu, Builtin.lenOf, Builtin.firstCells, hz, hmin]
  rw [show (List.take dLen (t.data.toList.map fun b => Value.int .u8 (b.toNat : Int))) = BL x by rw [hx, BL, List.map_take], hst]
  rfl
theorem step_copy_cut {P : Program} {ops : Array Oper} {o : Oper} {a : Act} {w : World} {K : Act → World → Prop} {Q : Exit → Act → World → Prop} {E : Prop}
    (hg : o.guard = none) (d x : Operand) (dT sT : TypeId) (hop : o.op = Op.call { callee := Callee.builtin Builtin.copy, args := #[d, x], argTypes := #[dT, sT] })
    (elem : TypeId) (hu : P.underlying dT = some (.slice elem)) (hz : ∀ w, (Go.sizeOf elem).run P w = .ok 1 w)
    (b off dLen dCap : Nat) (hd : a.eval d = .slice (some ⟨b, off, none⟩) dLen dCap) (t : ByteArray) (l : List UInt8) (hx : a.eval x = .string t) (hle : dLen ≤ t.size) (hl : l = t.data.toList.take dLen)
    (hc : ∀ j, j < dLen → (w.cell? ⟨b, off + j, none⟩).isSome = true) (hf : ∀ j, j < dLen → w.frozen? ⟨b, off + j, none⟩ = false)
    (hK : K (a.put o.dst (goInt dLen)) (w.setCells b off (BL l))) :
    if Region.wanted o (yielded ops a.tmps) = true then Oper.wp P o a w K Q else E := by
  have hw : Region.wanted o (yielded ops a.tmps) = true := by simp [Region.wanted, hg]
  rw [if_pos hw]
  have hrun := run_copy_cut (P := P) w dT sT o.type elem b off dLen dCap t l hu hz hle hl hc hf
  unfold Oper.wp
  simp [execOp, hop, resolve, invoke, builtin, hd, hx, hrun, Result.andThen]
  exact hK

/-- What a text written into one line leaves of a sheet. -/
theorem sheet_put {w w1 : World} {base g f : Nat} {rows : List Ln} (hs : SheetAt w base g f rows) (hL : Zn.Shaped f (Ln.txt rows)) (hf : 1 ≤ f ∧ f ≤ 3) (hb : Below w.heap.size w w1) (i : Nat) (hi : i < 15) (t : List UInt8)
    (hj : (Zn.place f i).1 < rows.length) :
    ∃ rows', SheetAt (w1.setCells rows[(Zn.place f i).1].1 (Zn.place f i).2.1 (BL (Zn.wide_ t (Zn.place f i).2.2))) base g f rows' ∧ rows'.map (·.1) = rows.map (·.1) ∧ Ln.txt rows' = Zn.putL f (Ln.txt rows) i t ∧
      w.grownBy (w1.setCells rows[(Zn.place f i).1].1 (Zn.place f i).2.1 (BL (Zn.wide_ t (Zn.place f i).2.2))) (some rows[(Zn.place f i).1].1) ∧ Zn.Shaped f (Ln.txt rows') := by
  obtain ⟨hp1, hp2⟩ := Zn.place_in f hf i hi
  have hll : rows[(Zn.place f i).1].2.2.length = Zn.wLine f := hL.2 _ (by unfold Ln.txt; exact List.mem_map.2 ⟨_, List.getElem_mem _, rfl⟩)
  have hget : (Ln.txt rows).getD (Zn.place f i).1 [] = rows[(Zn.place f i).1].2.2 := by
    unfold Ln.txt
    rw [List.getD_eq_getElem?_getD, List.getElem?_map, List.getElem?_eq_getElem hj]; rfl
  generalize hpl : Zn.place f i = pl at *
  obtain ⟨ln, at_, wd⟩ := pl
  simp only at *
  obtain ⟨v, h1, h2, h3⟩ := hs.later hb
  have hwl : (Zn.wide_ t wd).length = wd := Zn.wide_len t wd
  have hj' : ln < rows.length := hj
  replace hll : (rows[ln]'hj').2.2.length = Zn.wLine f := hll
  replace hget : (Ln.txt rows).getD ln [] = (rows[ln]'hj').2.2 := hget
  show ∃ rows', SheetAt (w1.setCells (rows[ln]'hj').1 at_ (BL (Zn.wide_ t wd))) base g f rows' ∧ rows'.map (·.1) = rows.map (·.1) ∧ Ln.txt rows' = Zn.putL f (Ln.txt rows) i t ∧ w.grownBy (w1.setCells (rows[ln]'hj').1 at_ (BL (Zn.wide_ t wd))) (some (rows[ln]'hj').1) ∧ Zn.Shaped f (Ln.txt rows')
  obtain ⟨r, hr⟩ : ∃ r, rows[ln]'hj' = r := ⟨_, rfl⟩
  obtain ⟨k, cp, l⟩ := r
  rw [hr] at hll hget ⊢
  simp only at hll hget ⊢
  have hov : (Zn.over l at_ (Zn.wide_ t wd)).length = l.length := Zn.over_len _ _ _ (by rw [hwl, hll]; exact hp2)
  have hmem : (k, cp, l) ∈ rows := by rw [← hr]; exact List.getElem_mem _
  obtain ⟨m1, m2, m3, m4, m5⟩ := h2.2.2 _ hmem
  simp only at m1 m2 m3 m4 m5
  have hne : ∀ b, b ≠ k → (w1.setCells k at_ (BL (Zn.wide_ t wd))).heap[b]? = w1.heap[b]? := fun b hb => heap_setCells_ne k _ _ _ b hb
  have hnb : ∀ b, v.ownBlock = some b → b ≠ k := fun b hb e => m3 (by rw [hb, e])
  have hmap1 : (rows.set ln (k, cp, Zn.over l at_ (Zn.wide_ t wd))).map (·.1) = rows.map (·.1) := by
    rw [List.map_set]
    apply List.ext_getElem (by simp)
    intro n a b
    rw [List.getElem_set]
    split
    · rename_i e; subst e; rw [List.getElem_map, hr]
    · rfl
  have hmap2 : Ln.txt (rows.set ln (k, cp, Zn.over l at_ (Zn.wide_ t wd))) = (Ln.txt rows).set ln (Zn.over l at_ (Zn.wide_ t wd)) := by
    unfold Ln.txt; rw [List.map_set]
  have hmapv : (rows.set ln (k, cp, Zn.over l at_ (Zn.wide_ t wd))).map Ln.val = rows.map Ln.val := by
    rw [List.map_set]
    apply List.ext_getElem (by simp)
    intro n a b
    rw [List.getElem_set]
    split
    · rename_i e; subst e; rw [List.getElem_map, hr]; unfold Ln.val; simp only [hov]
    · rfl
  refine ⟨rows.set ln (k, cp, Zn.over l at_ (Zn.wide_ t wd)), ⟨v, (hne g (by omega)).trans h1, ⟨?_, by rw [hmap1]; exact h2.2.1, fun r hrm => ?_⟩, h3⟩, hmap1, ?_, ?_, ?_⟩
  · rw [List.length_set, hmapv]
    refine ⟨h2.1.1, ?_⟩
    rcases h2.1.2 with h | ⟨b, c, cur, e1, e2, e3, e4⟩
    · exact .inl h
    · exact .inr ⟨b, c, cur, e1, e2, (hne b (hnb b (by rw [e1]; rfl))).trans e3, e4⟩
  · rw [size_setCells]
    obtain ⟨n, hn, rfl⟩ := List.getElem_of_mem hrm
    rw [List.length_set] at hn
    rw [List.getElem_set]
    split
    · exact ⟨m1, m2, m3, by rw [hov]; exact m4, m5.over at_ _ (by rw [hwl, hll]; exact hp2)⟩
    · rename_i hne'
      obtain ⟨a1, a2, a3, a4, a5⟩ := h2.2.2 rows[n] (List.getElem_mem hn)
      have hkn : rows[n].1 ≠ k := by
        intro e
        have hnd := h2.2.1
        have := (List.getElem_inj hnd (i := n) (j := ln) (h₀ := by simpa using hn) (h₁ := by simpa using hj)).1 (by rw [List.getElem_map, List.getElem_map, hr]; exact e)
        omega
      exact ⟨a1, a2, a3, a4, fun q hq => ⟨(World.cell?_of_block (a := ⟨rows[n].1, q, none⟩) (hne _ hkn)).trans (a5 q hq).1, (World.frozen?_of_block (a := ⟨rows[n].1, q, none⟩) (hne _ hkn)).trans (a5 q hq).2⟩⟩
  · rw [hmap2]; unfold Zn.putL; rw [hpl]; simp only [hget]
  · exact grown_trans (grown_of_below hb _) (grown_setCells _ _ _ _)
  · rw [hmap2]
    refine ⟨by rw [List.length_set]; exact hL.1, fun x hx => ?_⟩
    rcases List.mem_or_eq_of_mem_set hx with h | h
    · exact hL.2 _ h
    · rw [h, hov]; exact hll
end Go.Proofs.YtelngghecmkipaaGreatDoor

namespace Go.Proofs.YtelngghecmkipaaGreatDoor
open Go.RowKit

/-- What put leaves. -/
def PutPost (base g f : Nat) (rows : List Ln) (i : Nat) (t : List UInt8) (w : World) (e : Ending) (w' : World) : Prop :=
  e = .returned (.tuple #[]) ∧ ∃ rows', SheetAt w' base g f rows' ∧ rows'.map (·.1) = rows.map (·.1) ∧ Ln.txt rows' = Zn.putL f (Ln.txt rows) i t ∧ Zn.Shaped f (Ln.txt rows') ∧ ∃ k, k ∈ rows.map (·.1) ∧ w.grownBy w' (some k)

set_option maxRecDepth 100000 in
set_option maxHeartbeats 4000000 in
theorem zput (w : World) (base g f : Nat) (rows : List Ln) (hf : 1 ≤ f ∧ f ≤ 3) (h : SheetAt w base g f rows) (hL : Zn.Shaped f (Ln.txt rows)) (i : Nat) (hi : i < 15) (t : List UInt8) (ht : t.length ≤ 140737488355328) :
    Calls Tryz.prog 49 #[.pointer (some ⟨g, 0, none⟩), .int .i64 i, .string ⟨t.toArray⟩] w (PutPost base g f rows i t w) := by
  have hb0 := below_alloc1 w (.cells #[.int .i64 (Zn.place f i).1, .int .i64 (Zn.place f i).2.1, .int .i64 (Zn.place f i).2.2] 55)
  obtain ⟨hp1, hp2⟩ := Zn.place_in f hf i hi
  have hlen : rows.length = Zn.nLines f := by have := hL.1; unfold Ln.txt at this; rwa [List.length_map] at this
  have HPUT := Lib.hid (fun w1 (hb : Below w.heap.size w w1) => sheet_put h hL hf hb i hi t (by omega))
  obtain ⟨v, hs, hl, hgb⟩ := h
  obtain ⟨e0, e1, e2⟩ := Zn.lay_at f hf i hi
  have hsz := Zn.lay_size f
  have c0 := (hs.cell (3 * i) (by omega)).trans e0
  have c1 := (hs.cell (3 * i + 1) (by omega)).trans e1
  have c2 := (hs.cell (3 * i + 2) (by omega)).trans e2
  have c45 := hs.last
  rw [hsz] at c45
  have hnl : Zn.nLines f ≤ 3 ∧ 2 ≤ Zn.nLines f := by unfold Zn.nLines; split <;> omega
  obtain ⟨b, c, rfl, hb1, hb2, hc1, hc2, hline⟩ := hl.line (by omega)
  obtain ⟨hcell, hbytes, hcap, hblk⟩ := hline (Zn.place f i).1 (by omega)
  have hll : rows[(Zn.place f i).1].2.2.length = Zn.wLine f := hL.2 _ (by unfold Ln.txt; exact List.mem_map.2 ⟨_, List.getElem_mem _, rfl⟩)
  have hrm : rows[(Zn.place f i).1] ∈ rows := List.getElem_mem _
  obtain ⟨m1, m2, m3, m4, m5⟩ := hl.2.2 _ hrm
  have hkm : rows[(Zn.place f i).1].1 ∈ rows.map (·.1) := List.mem_map.2 ⟨_, hrm, rfl⟩
  have hwl : Zn.wLine f ≤ 44 := by unfold Zn.wLine; split; · omega
                                   split <;> omega
  unfold Ln.val at hcell
  rw [hll] at hcell hcap
  obtain ⟨ln, hln⟩ : ∃ q, (Zn.place f i).1 = q := ⟨_, rfl⟩
  obtain ⟨at_, hat⟩ : ∃ q, (Zn.place f i).2.1 = q := ⟨_, rfl⟩
  obtain ⟨wd, hwd⟩ : ∃ q, (Zn.place f i).2.2 = q := ⟨_, rfl⟩
  obtain ⟨k, hk⟩ : ∃ q, rows[(Zn.place f i).1].1 = q := ⟨_, rfl⟩
  obtain ⟨cp, hcp⟩ : ∃ q, rows[(Zn.place f i).1].2.1 = q := ⟨_, rfl⟩
  rw [hk, hcp] at hcell
  rw [hcp] at hcap
  rw [hk] at hkm hblk hbytes m1 m3
  simp only [hk] at HPUT
  rw [hat, hwd] at hp2 HPUT
  rw [hln] at hcell hp1 c0 hb0
  rw [hat] at c1 hb0
  rw [hwd] at c2 hb0
  rw [Nat.mul_comm] at c0 c1 c2
  have hbg : b ≠ g := by omega
  have hkb : k ≠ b := fun e => m3 (by rw [e]; rfl)
  have hkg : k ≠ g := by omega
  have hll2 : rows[(Zn.place f i).1].2.2.length = Zn.wLine f := hll
  have HBY := Lib.hid (show ∀ j, j < Zn.wLine f → (w.cell? ⟨k, j, none⟩).isSome = true ∧ w.frozen? ⟨k, j, none⟩ = false from fun j hj => by have hh := hbytes j (by omega); exact ⟨by rw [hh.1]; rfl, hh.2⟩)
  have HKM := Lib.hid hkm
  have hlnr : ln < rows.length := by omega
  clear hline hsz e0 e1 e2 hL hs hl hgb hbytes m1 m2 m3 m4 m5 hrm hkm hll hll2 hln hat hwd hk hcp hlen
  rcases Nat.eq_zero_or_pos wd with h0 | h0
  · subst h0
    have HB0 := Lib.hid hb0
    have eg : decide ((0 : Int) < ((0 : Nat) : Int)) = false := rfl
    have h2 := HPUT.out _ hb0
    have e0 : Zn.wide_ t 0 = [] := List.take_zero
    rw [e0] at h2
    have HP := Lib.hid h2
    clear h2 hb0 HPUT e0
    go_enter Tryz.func49, Tryz.ntmps49
    go_wp2_with fail
    refine bodyPost_ret (v := .tuple #[]) (by simp [results, Tryz.results49, go_sem]) rfl ?_
    obtain ⟨rows', r1, r2, r3, r4, r5⟩ := HP.out
    exact ⟨rfl, rows', r1, r2, r3, r5, k, HKM.out, r4⟩
  have HB0 := Lib.hid hb0
  have hrp : ∀ W, Calls Tryz.prog 46 #[.string ⟨#[60]⟩, .int .i64 wd] W fun e w' => e = .returned (.string ⟨(List.replicate wd (60 : UInt8)).toArray⟩) ∧ Below W.heap.size W w' := fun W => by
    have h := orepeat wd W (by omega) (by omega)
    rw [Int.toNat_natCast] at h; exact h
  obtain ⟨FI, hFI⟩ : ∃ q : ByteArray, q = ⟨(List.replicate wd (60 : UInt8)).toArray⟩ := ⟨_, rfl⟩
  obtain ⟨TT, hTT⟩ : ∃ q : ByteArray, q = ⟨t.toArray⟩ := ⟨_, rfl⟩
  rw [← hFI] at hrp
  rw [← hTT]
  have HRP := Lib.hid hrp
  have zF : FI.size = wd := by rw [hFI, str_size, List.length_replicate]
  have zT : TT.size ≤ 140737488355328 := by rw [hTT, str_size]; exact ht
  have hsum : (TT ++ FI).data.toList.take wd = Zn.wide_ t wd := by rw [hTT, hFI, str_add]; rfl
  have zS : wd ≤ (TT ++ FI).size := by rw [ByteArray.size_append, zF]; omega
  have HSUM := Lib.hid hsum; have HZS := Lib.hid zS
  have hlw : at_ + wd ≤ cp := by omega
  have ew : decide ((0 : Int) < (wd : Int)) = true := decide_eq_true (by omega)
  have hwd44 : wd ≤ 44 := by omega
  clear hFI hTT hrp hsum zS hb0
  go_enter Tryz.func49, Tryz.ntmps49
  go_upto_region 2 with fail
  have a45 : ((w.alloc (.cells #[.int .i64 ln, .int .i64 at_, .int .i64 wd] 55)).drew).cell? ⟨g, 45, none⟩ = some (.slice (some ⟨b, 0, none⟩) rows.length c) := cell_later HB0.out.drew c45
  have aln : ((w.alloc (.cells #[.int .i64 ln, .int .i64 at_, .int .i64 wd] 55)).drew).cell? ⟨b, ln, none⟩ = some (.slice (some ⟨k, 0, none⟩) (Zn.wLine f) cp) := cell_later HB0.out.drew hcell
  have b0 : ((w.alloc (.cells #[.int .i64 ln, .int .i64 at_, .int .i64 wd] 55)).drew).cell? ⟨w.heap.size, 0, none⟩ = some (.int .i64 ln) := cell_new w _ _ 0
  have b1 : ((w.alloc (.cells #[.int .i64 ln, .int .i64 at_, .int .i64 wd] 55)).drew).cell? ⟨w.heap.size, 1, none⟩ = some (.int .i64 at_) := cell_new w _ _ 1
  have b2 : ((w.alloc (.cells #[.int .i64 ln, .int .i64 at_, .int .i64 wd] 55)).drew).cell? ⟨w.heap.size, 2, none⟩ = some (.int .i64 wd) := cell_new w _ _ 2
  obtain ⟨B0, hB0⟩ : ∃ q, w.heap.size = q := ⟨_, rfl⟩
  have hBk : k ≠ B0 := by omega
  have hBlt := HB0.out
  clear c0 c1 c2 c45 hcell
  generalize hwa : w.alloc (.cells #[.int .i64 ln, .int .i64 at_, .int .i64 wd] 55) = w1 at *
  clear hwa
  have HB1 := Lib.hid hBlt; have HHB := Lib.hid hB0
  rw [hB0] at b0 b1 b2 ⊢
  clear hBlt hB0 HB0
  have i1 : (at_ : Int) + (wd : Int) ≤ (cp : Int) := by omega
  have i2 : (0 : Int) ≤ (at_ : Int) + (wd : Int) := by omega
  have i3 : (at_ : Int) ≤ (at_ : Int) + (wd : Int) := by omega
  have i4 : (at_ : Int) ≤ (cp : Int) := by omega
  have i5 : ¬ (9223372036854775807 < TT.size + wd) := by omega
  have i6 : (ln : Int) < (rows.length : Int) := by omega
  have i7 : ¬ (cp = at_) := by omega
  have i8 : ((at_ : Int) + (wd : Int)).toNat = at_ + wd := by omega
  have i9 : at_ + wd - at_ = wd := by omega
  have e2 : IntKind.i64.wrap ((at_ : Int) + (wd : Int)) = (at_ : Int) + (wd : Int) := IntWalk.i64_in _ (by omega)
  (refine wp_region_held_drew (S := (fun W => W.cell? ⟨g, 45, none⟩ = some (.slice (some ⟨b, 0, none⟩) rows.length c) ∧ W.cell? ⟨b, ln, none⟩ = some (.slice (some ⟨k, 0, none⟩) (Zn.wLine f) cp) ∧ W.cell? ⟨B0, 0, none⟩ = some (.int .i64 ln) ∧ W.cell? ⟨B0, 1, none⟩ = some (.int .i64 at_) ∧ W.cell? ⟨B0, 2, none⟩ = some (.int .i64 wd))) (by kernel_rfl) (show _ ∧ _ ∧ _ ∧ _ ∧ _ from ⟨a45, aln, b0, b1, b2⟩) (fun hHeld => ?_))
  ((refine tkI 0 ?_ (hy := ?_) (h := ?_); rotate_left 1; · (intro w hSw; (try dsimp only at hSw); go_simp; (try with_reducible rfl))); (try simp only [Act.put, List.setIfInBounds_toArray, List.set_cons_zero, List.set_cons_succ]))
  ((refine tkI 1 ?_ (hy := ?_) (h := ?_); rotate_left 1; · (intro w hSw; (try dsimp only at hSw); go_simp; (try with_reducible rfl))); (try simp only [Act.put, List.setIfInBounds_toArray, List.set_cons_zero, List.set_cons_succ]))
  ((refine tkI 2 ?_ (hy := ?_) (h := ?_); rotate_left 1; · (intro w hSw; (try dsimp only at hSw); go_simp; (try with_reducible rfl))); (try simp only [Act.put, List.setIfInBounds_toArray, List.set_cons_zero, List.set_cons_succ]))
  ((refine tkI 3 ?_ (hy := ?_) (h := ?_); rotate_left 1; · (intro w hSw; (try dsimp only at hSw); go_simp; (try with_reducible rfl))); (try simp only [Act.put, List.setIfInBounds_toArray, List.set_cons_zero, List.set_cons_succ]))
  ((refine tkI 4 ?_ (hy := ?_) (h := ?_); rotate_left 1; · (intro w hSw; (try dsimp only at hSw); go_simp; (try with_reducible rfl))); (try simp only [Act.put, List.setIfInBounds_toArray, List.set_cons_zero, List.set_cons_succ]))
  ((refine tkI 5 ?_ (hy := ?_) (h := ?_); rotate_left 1; · (intro w hSw; (try dsimp only at hSw); go_simp; (try with_reducible rfl))); (try simp only [Act.put, List.setIfInBounds_toArray, List.set_cons_zero, List.set_cons_succ]))
  ((refine tkI 6 ?_ (hy := ?_) (h := ?_); rotate_left 1; · (intro w hSw; (try dsimp only at hSw); go_simp; (try with_reducible rfl))); (try simp only [Act.put, List.setIfInBounds_toArray, List.set_cons_zero, List.set_cons_succ]))
  ((refine tkI 7 ?_ (hy := ?_) (h := ?_); rotate_left 1; · (intro w hSw; (try dsimp only at hSw); go_simp; (try with_reducible rfl))); (try simp only [Act.put, List.setIfInBounds_toArray, List.set_cons_zero, List.set_cons_succ]))
  ((refine tkI 8 ?_ (hy := ?_) (h := ?_); rotate_left 1; · (intro w hSw; (try dsimp only at hSw); go_simp; (try with_reducible rfl))); (try simp only [Act.put, List.setIfInBounds_toArray, List.set_cons_zero, List.set_cons_succ]))
  ((refine tkI 9 ?_ (hy := ?_) (h := ?_); rotate_left 1; · (intro w hSw; (try dsimp only at hSw); go_simp; (try with_reducible rfl))); (try simp only [Act.put, List.setIfInBounds_toArray, List.set_cons_zero, List.set_cons_succ]))
  ((refine tkI 10 ?_ (hy := ?_) (h := ?_); rotate_left 1; · (intro w hSw; (try dsimp only at hSw); go_simp; (try with_reducible rfl))); (try simp only [Act.put, List.setIfInBounds_toArray, List.set_cons_zero, List.set_cons_succ]))
  ((refine tkI 11 ?_ (hy := ?_) (h := ?_); rotate_left 1; · (intro w hSw; (try dsimp only at hSw); go_simp; (try with_reducible rfl))); (try simp only [Act.put, List.setIfInBounds_toArray, List.set_cons_zero, List.set_cons_succ]))
  ((refine tkI 12 ?_ (hy := ?_) (h := ?_); rotate_left 1; · (intro w hSw; (try dsimp only at hSw); go_simp; (try with_reducible rfl))); (try simp only [Act.put, List.setIfInBounds_toArray, List.set_cons_zero, List.set_cons_succ]))
  ((refine tkI 13 ?_ (hy := ?_) (h := ?_); rotate_left 1; · (intro w hSw; (try dsimp only at hSw); go_simp; (try with_reducible rfl))); (try simp only [Act.put, List.setIfInBounds_toArray, List.set_cons_zero, List.set_cons_succ]))
  ((refine tkI 14 ?_ (hy := ?_) (h := ?_); rotate_left 1; · (intro w hSw; (try dsimp only at hSw); go_simp; (try with_reducible rfl))); (try simp only [Act.put, List.setIfInBounds_toArray, List.set_cons_zero, List.set_cons_succ]))
  ((refine tkI 15 ?_ (hy := ?_) (h := ?_); rotate_left 1; · (intro w hSw; (try dsimp only at hSw); go_simp; (try with_reducible rfl))); (try simp only [Act.put, List.setIfInBounds_toArray, List.set_cons_zero, List.set_cons_succ]))
  ((refine tkI 16 ?_ (hy := ?_) (h := ?_); rotate_left 1; · (intro w hSw; (try dsimp only at hSw); go_simp; (try with_reducible rfl))); (try simp only [Act.put, List.setIfInBounds_toArray, List.set_cons_zero, List.set_cons_succ]))
  ((refine tkI 17 ?_ (hy := ?_) (h := ?_); rotate_left 1; · (intro w hSw; (try dsimp only at hSw); go_simp; (try with_reducible rfl))); (try simp only [Act.put, List.setIfInBounds_toArray, List.set_cons_zero, List.set_cons_succ]))
  ((refine tkI 18 ?_ (hy := ?_) (h := ?_); rotate_left 1; · (intro w hSw; (try dsimp only at hSw); go_simp; (try with_reducible rfl))); (try simp only [Act.put, List.setIfInBounds_toArray, List.set_cons_zero, List.set_cons_succ]))
  (refine wpAnyH_ready (rs := [19]) (by kernel_rfl) (by simp) ?_; refine AllReadyH.cons (by simp only [List.getElem?_toArray, List.getElem?_cons_succ, List.getElem?_cons_zero]; rfl) (fun K hK => ?_) AllReadyH.nil; go_simp; go_at_call 46; refine (HRP.out _).mono ?_; rintro e w5 ⟨rfl, hb4⟩; have HB5 := Lib.hid (HB1.out.trans ((below_of_drew hb4).mono HB1.out.size)); refine hK.out _ _ (⟨cell_later hb4 hHeld.1, cell_later hb4 hHeld.2.1, cell_later hb4 hHeld.2.2.1, cell_later hb4 hHeld.2.2.2.1, cell_later hb4 hHeld.2.2.2.2⟩) (fun hHeld => ?_); clear hK K; (try simp only [Act.put, List.setIfInBounds_toArray, List.set_cons_zero, List.set_cons_succ]))
  ((refine tkI 20 ?_ (hy := ?_) (h := ?_); rotate_left 1; · (intro w hSw; (try dsimp only at hSw); go_simp; (try with_reducible rfl))); (try simp only [Act.put, List.setIfInBounds_toArray, List.set_cons_zero, List.set_cons_succ]))
  (refine wpAnyH_ready (rs := [21]) (by kernel_rfl) (by simp) ?_; refine AllReadyH.cons (by simp only [List.getElem?_toArray, List.getElem?_cons_succ, List.getElem?_cons_zero]; rfl) (fun K hK => ?_) AllReadyH.nil; refine step_copy_cut (by rfl) _ _ _ _ (by rfl) 5 Tryz.underlying41 (fun _ => by kernel_rfl) k at_ wd (cp - at_) (by rfl) _ (Zn.wide_ t wd) (by rfl) ?c1 ?c2 ?c3 ?c4 ?_)
  case c1 => exact HZS.out
  case c2 => exact HSUM.out.symm
  case c3 => intro j hj; have hh := (HBY.out (at_ + j) (by omega)).1; obtain ⟨u, hu⟩ := Option.isSome_iff_exists.1 hh; rw [cell_later HB5.out hu]; rfl
  case c4 => intro j hj; rw [HB5.out.frozen (p := ⟨k, at_ + j, none⟩) hblk]; exact (HBY.out (at_ + j) (by omega)).2
  have hout : ∀ (x : Addr), x.block ≠ k → (w5.setCells k at_ (BL (Zn.wide_ t wd))).cell? x = w5.cell? x := fun x hx => World.cell?_setCells_out k _ _ _ _ (fun h => absurd h hx)
  refine hK.out _ _ (show _ ∧ _ ∧ _ ∧ _ ∧ _ from ⟨(hout ⟨g, 45, none⟩ (by exact fun h => hkg h.symm)).trans hHeld.1, (hout ⟨b, ln, none⟩ (by exact fun h => hkb h.symm)).trans hHeld.2.1, (hout ⟨B0, 0, none⟩ (by exact fun h => hBk h.symm)).trans hHeld.2.2.1, (hout ⟨B0, 1, none⟩ (by exact fun h => hBk h.symm)).trans hHeld.2.2.2.1, (hout ⟨B0, 2, none⟩ (by exact fun h => hBk h.symm)).trans hHeld.2.2.2.2⟩) (fun hHeld2 => ?_)
  clear hK K hHeld2 hHeld hout
  (try simp only [Act.put, List.setIfInBounds_toArray, List.set_cons_zero, List.set_cons_succ])
  (refine wpAnyH_done (by kernel_rfl) ?_ _)
  obtain ⟨rows', r1, r2, r3, r4, r5⟩ := HPUT.out w5 HB5.out
  have HP := Lib.hid (show PutPost base g f rows i t w (.returned (.tuple #[])) (w5.setCells k at_ (BL (Zn.wide_ t wd))) from ⟨rfl, rows', r1, r2, r3, r5, k, HKM.out, r4⟩)
  clear r1 r2 r3 r4 r5
  go_wp2_with fail
  refine bodyPost_ret (v := .tuple #[]) (by simp [results, Tryz.results49, go_sem]) rfl HP.out
end Go.Proofs.YtelngghecmkipaaGreatDoor
