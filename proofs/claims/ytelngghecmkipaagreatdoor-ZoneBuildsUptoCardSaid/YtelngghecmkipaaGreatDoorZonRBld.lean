/- Chapter 11: the walk of the reference's Build. -/
import Derived.Test.YtelngghecmkipaaGreatDoorZonRBldP
import Derived.Test.YtelngghecmkipaaGreatDoorZonBuild
namespace Go.Proofs.YtelngghecmkipaaGreatDoor
open Go.RowKit

theorem eq2 {a b : Nat} (h : a = b) : b ≤ a ∧ a ≤ b := ⟨by omega, by omega⟩
theorem below_undrew2 {w w' : World} (h : Below w.drew.heap.size w.drew w') : Below w.heap.size w w' := ((Below.refl w.heap.size w).drew).trans h
def ZCells (z : Zn.Z) (f : Int) (g : Nat) (W : World) : Prop := W.cell? ⟨g, 0, none⟩ = some (.int .i64 f) ∧ W.cell? ⟨g, 1, none⟩ = some (.string z.kind) ∧ W.cell? ⟨g, 2, none⟩ = some (.string z.state) ∧ W.cell? ⟨g, 3, none⟩ = some (.string z.sur) ∧ W.cell? ⟨g, 4, none⟩ = some (.string z.giv) ∧ W.cell? ⟨g, 5, none⟩ = some (.string z.num) ∧ W.cell? ⟨g, 6, none⟩ = some (.string z.nat) ∧ W.cell? ⟨g, 7, none⟩ = some (.string z.birth) ∧ W.cell? ⟨g, 8, none⟩ = some (.string z.sex) ∧ W.cell? ⟨g, 9, none⟩ = some (.string z.exp) ∧ W.cell? ⟨g, 10, none⟩ = some (.string z.opt) ∧ W.cell? ⟨g, 11, none⟩ = some (.string z.sec)
theorem zbox_new_at (w : World) (z : Zn.Z) (f : Int) (hf : z.fmt = f) : ZCells z f w.heap.size (w.alloc (.cells #[.int .i64 f, .string z.kind, .string z.state, .string z.sur, .string z.giv, .string z.num, .string z.nat, .string z.birth, .string z.sex, .string z.exp, .string z.opt, .string z.sec] 24)) := by
  subst hf
  exact (ZBox.new w z).cells
theorem zcells_later {w w' : World} {z : Zn.Z} {f : Int} {g : Nat} (hb : Below w.heap.size w w') (h : ZCells z f g w) : ZCells z f g w' := ⟨cell_later hb h.1, cell_later hb h.2.1, cell_later hb h.2.2.1, cell_later hb h.2.2.2.1, cell_later hb h.2.2.2.2.1, cell_later hb h.2.2.2.2.2.1, cell_later hb h.2.2.2.2.2.2.1, cell_later hb h.2.2.2.2.2.2.2.1, cell_later hb h.2.2.2.2.2.2.2.2.1, cell_later hb h.2.2.2.2.2.2.2.2.2.1, cell_later hb h.2.2.2.2.2.2.2.2.2.2.1, cell_later hb h.2.2.2.2.2.2.2.2.2.2.2⟩
theorem zcells_lt {w : World} {z : Zn.Z} {f : Int} {g : Nat} (h : ZCells z f g w) : g < w.heap.size := World.block_lt_of_cell? _ _ h.1
theorem zcells_set {w : World} {z : Zn.Z} {f : Int} {g : Nat} (h : ZCells z f g w) {p : Addr} (hp : g ≠ p.block) (v : Value) : ZCells z f g (w.setCell p v) :=
  have e : ∀ i, (w.setCell p v).cell? ⟨g, i, none⟩ = w.cell? ⟨g, i, none⟩ := fun i => World.cell?_of_block (a := ⟨g, i, none⟩) (Below.heap_setCell _ _ _ _ hp)
  ⟨(e 0).trans h.1, (e 1).trans h.2.1, (e 2).trans h.2.2.1, (e 3).trans h.2.2.2.1, (e 4).trans h.2.2.2.2.1, (e 5).trans h.2.2.2.2.2.1, (e 6).trans h.2.2.2.2.2.2.1, (e 7).trans h.2.2.2.2.2.2.2.1, (e 8).trans h.2.2.2.2.2.2.2.2.1, (e 9).trans h.2.2.2.2.2.2.2.2.2.1, (e 10).trans h.2.2.2.2.2.2.2.2.2.2.1, (e 11).trans h.2.2.2.2.2.2.2.2.2.2.2⟩
theorem row_later2 {w w' : World} {g : Nat} {o : Obj} (hb : Below w.heap.size w w') (hg : g < w.heap.size) (h : w.heap[g]? = some o) : w'.heap[g]? = some o := (hb.block g hg).trans h
theorem days_done (DB DE : ByteArray) {w W : World} {z : Zn.Z} {f : Int} {g1 g2 : Nat} (hz : ZCells z f g1 W) (h12 : g1 < g2) (hw : w.heap.size ≤ g2) (hr : W.heap[g2]? = some (.cells #[.string ⟨#[]⟩, .string ⟨#[]⟩] 82 (0, 0))) (hb : Below w.heap.size w W) :
    let W' := (W.setCell ⟨g2, 0, none⟩ (.string DB)).setCell ⟨g2, 1, none⟩ (.string DE)
    ZCells z f g1 W' ∧ W'.cell? ⟨g2, 0, none⟩ = some (.string DB) ∧ W'.cell? ⟨g2, 1, none⟩ = some (.string DE) ∧ Below w.heap.size w W' := by
  have hne : g1 ≠ g2 := by omega
  have h1 := heap_setCell_same W g2 0 _ _ (.string DB) hr
  have h2 := heap_setCell_same (W.setCell ⟨g2, 0, none⟩ (.string DB)) g2 1 _ _ (.string DE) h1
  refine ⟨zcells_set (zcells_set hz hne _) hne _, ?_, ?_, (hb.setCell (p := ⟨g2, 0, none⟩) hw _).setCell (p := ⟨g2, 1, none⟩) hw _⟩
  · rw [cell_of_row _ g2 0 _ _ _ h2]; rfl
  · rw [cell_of_row _ g2 1 _ _ _ h2]; rfl
def ZDays (z : Zn.Z) (f : Int) (g1 g2 : Nat) (DB DE : ByteArray) (W : World) : Prop := W.cell? ⟨g1, 0, none⟩ = some (.int .i64 f) ∧ W.cell? ⟨g1, 1, none⟩ = some (.string z.kind) ∧ W.cell? ⟨g1, 2, none⟩ = some (.string z.state) ∧ W.cell? ⟨g1, 3, none⟩ = some (.string z.sur) ∧ W.cell? ⟨g1, 4, none⟩ = some (.string z.giv) ∧ W.cell? ⟨g1, 5, none⟩ = some (.string z.num) ∧ W.cell? ⟨g1, 6, none⟩ = some (.string z.nat) ∧ W.cell? ⟨g1, 7, none⟩ = some (.string z.birth) ∧ W.cell? ⟨g1, 8, none⟩ = some (.string z.sex) ∧ W.cell? ⟨g1, 9, none⟩ = some (.string z.exp) ∧ W.cell? ⟨g1, 10, none⟩ = some (.string z.opt) ∧ W.cell? ⟨g1, 11, none⟩ = some (.string z.sec) ∧ W.cell? ⟨g2, 0, none⟩ = some (.string DB) ∧ W.cell? ⟨g2, 1, none⟩ = some (.string DE)
theorem zdays_mk {z : Zn.Z} {f : Int} {g1 g2 : Nat} {DB DE : ByteArray} {W : World} (h : ZCells z f g1 W) (h0 : W.cell? ⟨g2, 0, none⟩ = some (.string DB)) (h1 : W.cell? ⟨g2, 1, none⟩ = some (.string DE)) : ZDays z f g1 g2 DB DE W := ⟨h.1, h.2.1, h.2.2.1, h.2.2.2.1, h.2.2.2.2.1, h.2.2.2.2.2.1, h.2.2.2.2.2.2.1, h.2.2.2.2.2.2.2.1, h.2.2.2.2.2.2.2.2.1, h.2.2.2.2.2.2.2.2.2.1, h.2.2.2.2.2.2.2.2.2.2.1, h.2.2.2.2.2.2.2.2.2.2.2, h0, h1⟩
theorem zdays_later {w w' : World} {z : Zn.Z} {f : Int} {g1 g2 : Nat} {DB DE : ByteArray} (hb : Below w.heap.size w w') (h : ZDays z f g1 g2 DB DE w) : ZDays z f g1 g2 DB DE w' := ⟨cell_later hb h.1, cell_later hb h.2.1, cell_later hb h.2.2.1, cell_later hb h.2.2.2.1, cell_later hb h.2.2.2.2.1, cell_later hb h.2.2.2.2.2.1, cell_later hb h.2.2.2.2.2.2.1, cell_later hb h.2.2.2.2.2.2.2.1, cell_later hb h.2.2.2.2.2.2.2.2.1, cell_later hb h.2.2.2.2.2.2.2.2.2.1, cell_later hb h.2.2.2.2.2.2.2.2.2.2.1, cell_later hb h.2.2.2.2.2.2.2.2.2.2.2.1, cell_later hb h.2.2.2.2.2.2.2.2.2.2.2.2.1, cell_later hb h.2.2.2.2.2.2.2.2.2.2.2.2.2⟩
theorem rbuild_two {w W : World} {z : Zn.Z} (a b : ByteArray) (hb : Below w.heap.size w W) (h : Zn.bldK z = [a, b]) :
    (W.alloc (.cells #[.string a, .string b] 9)).ownsRow w.heap.size 9 1 (.slice (some ⟨W.heap.size, 0, none⟩) 2 2) (Zn.bldK z).length ((Zn.bldK z).map .string) ∧ Below w.heap.size w (W.alloc (.cells #[.string a, .string b] 9)) := by
  rw [h]
  exact ⟨ownsRow_base (World.ownsRow_lit (base := W.heap.size) W #[.string a, .string b] 2 (Nat.le_refl _) (by unfold maxLen; omega) rfl) hb.size, hb.trans ((below_alloc1 W _).mono hb.size)⟩
theorem rbuild_three {w W : World} {z : Zn.Z} (a b c : ByteArray) (hb : Below w.heap.size w W) (h : Zn.bldK z = [a, b, c]) :
    (W.alloc (.cells #[.string a, .string b, .string c] 9)).ownsRow w.heap.size 9 1 (.slice (some ⟨W.heap.size, 0, none⟩) 3 3) (Zn.bldK z).length ((Zn.bldK z).map .string) ∧ Below w.heap.size w (W.alloc (.cells #[.string a, .string b, .string c] 9)) := by
  rw [h]
  exact ⟨ownsRow_base (World.ownsRow_lit (base := W.heap.size) W #[.string a, .string b, .string c] 3 (Nat.le_refl _) (by unfold maxLen; omega) rfl) hb.size, hb.trans ((below_alloc1 W _).mono hb.size)⟩
set_option maxRecDepth 100000 in
set_option maxHeartbeats 16000000 in
theorem rbuild_1 (z : Zn.Z) (w : World) (hf : z.fmt = 1) (hv : Zn.vldE z = 0) (hab : z.sur.size + z.giv.size ≤ 140737488355000) (hvl : ∀ W, Calls Tryz.prog 24 #[.agg #[.int .i64 1, .string z.kind, .string z.state, .string z.sur, .string z.giv, .string z.num, .string z.nat, .string z.birth, .string z.sex, .string z.exp, .string z.opt, .string z.sec]] W fun e w' => e = .returned (.int .i64 0) ∧ Below W.heap.size W w') :
    Calls Tryz.prog 20 #[.agg #[.int .i64 1, .string z.kind, .string z.state, .string z.sur, .string z.giv, .string z.num, .string z.nat, .string z.birth, .string z.sex, .string z.exp, .string z.opt, .string z.sec]] w (BldPost z w) := by
  have HGD := Lib.hid (Zn.good_of hv)
  have HKW := Lib.hid (fun W => rwideS z.kind 2 W (by omega))
  obtain ⟨KW, hKW⟩ : ∃ q : ByteArray, Zn.wS z.kind 2 = q := ⟨_, rfl⟩
  rw [hKW] at HKW
  have E_KW := Lib.hid hKW
  have zKW : 2 ≤ KW.size ∧ KW.size ≤ 2 := eq2 (by rw [← hKW]; exact Zn.wS_size (by have := Zn.letters_le HGD.out.kind; omega))
  have HSW := Lib.hid (fun W => rwideS z.state 3 W (by omega))
  obtain ⟨SW, hSW⟩ : ∃ q : ByteArray, Zn.wS z.state 3 = q := ⟨_, rfl⟩
  rw [hSW] at HSW
  have E_SW := Lib.hid hSW
  have zSW : 3 ≤ SW.size ∧ SW.size ≤ 3 := eq2 (by rw [← hSW]; exact Zn.wS_size (by have := Zn.letters_le HGD.out.state; omega))
  have HNU := Lib.hid (fun W => rnumber z.num W (by have := HGD.out.numLe20; omega))
  obtain ⟨NU, hNU⟩ : ∃ q : ByteArray, Zn.nuA z.num = q := ⟨_, rfl⟩
  rw [hNU] at HNU
  have E_NU := Lib.hid hNU
  obtain ⟨RS, hRS⟩ : ∃ q : ByteArray, Zn.nuB z.num = q := ⟨_, rfl⟩
  rw [hRS] at HNU
  have E_RS := Lib.hid hRS
  have zNU : 10 ≤ NU.size ∧ NU.size ≤ 10 := eq2 (by rw [← hNU]; exact HGD.out.nuA_size)
  have ZRS := Lib.hid (show RS.size + z.opt.size = if 9 < z.num.size then z.num.size - 7 + z.opt.size else z.opt.size by rw [← hRS]; exact HGD.out.nuB_size)
  have HDB := Lib.hid (fun W => rchecked z.birth W (by have := Zn.birth_size HGD.out.birth; omega))
  obtain ⟨DB, hDB⟩ : ∃ q : ByteArray, Zn.ckS z.birth = q := ⟨_, rfl⟩
  rw [hDB] at HDB
  have E_DB := Lib.hid hDB
  have zDB : 7 ≤ DB.size ∧ DB.size ≤ 7 := eq2 (by rw [← hDB]; exact HGD.out.db_size)
  have HDE := Lib.hid (fun W => rchecked z.exp W (by have := Zn.prE_size HGD.out.exp; omega))
  obtain ⟨DE, hDE⟩ : ∃ q : ByteArray, Zn.ckS z.exp = q := ⟨_, rfl⟩
  rw [hDE] at HDE
  have E_DE := Lib.hid hDE
  have zDE : 7 ≤ DE.size ∧ DE.size ≤ 7 := eq2 (by rw [← hDE]; exact HGD.out.de_size)
  have HNW := Lib.hid (fun W => rwideS z.nat 3 W (by omega))
  obtain ⟨NW, hNW⟩ : ∃ q : ByteArray, Zn.wS z.nat 3 = q := ⟨_, rfl⟩
  rw [hNW] at HNW
  have E_NW := Lib.hid hNW
  have zNW : 3 ≤ NW.size ∧ NW.size ≤ 3 := eq2 (by rw [← hNW]; exact Zn.wS_size (by have := Zn.letters_le HGD.out.nat; omega))
  have HNA := Lib.hid (fun W => rnames_any z.sur z.giv 30 W hab)
  obtain ⟨nmx, hnmx⟩ : ∃ q, Opt.nmE z.sur.data.toList z.giv.data.toList 30 = q := ⟨_, rfl⟩
  rw [hnmx] at HNA
  clear hnmx
  obtain ⟨NM, hNM⟩ : ∃ q : ByteArray, (⟨(Opt.nmV z.sur.data.toList z.giv.data.toList 30).toArray⟩ : ByteArray) = q := ⟨_, rfl⟩
  rw [hNM] at HNA
  have E_NM := Lib.hid hNM
  have zNM : NM.size ≤ 30 := by rw [← hNM, arr_size]; exact nmV_len _ _ _
  have zsx : z.sex.size ≤ 1 ∧ 1 ≤ z.sex.size := (by have := Zn.sex_le HGD.out.sex; omega)
  have zop := HGD.out.optLe
  have zse : z.sec.size ≤ 11 := by have := HGD.out.secLe; omega
  clear hKW hSW hNU hRS hDB hDE hNW hNM
  have HVL := Lib.hid hvl
  have HVE := Lib.hid hv
  have HFM := Lib.hid hf
  have hb1 := below_alloc1 w (.cells #[.int .i64 1, .string z.kind, .string z.state, .string z.sur, .string z.giv, .string z.num, .string z.nat, .string z.birth, .string z.sex, .string z.exp, .string z.opt, .string z.sec] 24)
  have hbx := zbox_new_at w z 1 hf
  clear hf hv hab hvl
  have hix : ∀ w, (Instr.index 37 (.agg #[.int .i64 0, .int .i64 30, .int .i64 31, .int .i64 39]) (.int .i64 1)).run Tryz.prog w = .ok (.int .i64 30) w := fun _ => by kernel_rfl
  go_enter Tryz.func20, Tryz.ntmps20
  go_upto_region 1 with fail
  generalize w.alloc (.cells #[.int .i64 1, .string z.kind, .string z.state, .string z.sur, .string z.giv, .string z.num, .string z.nat, .string z.birth, .string z.sex, .string z.exp, .string z.opt, .string z.sec] 24) = w1 at hb1 hbx ⊢
  have HB1 := Lib.hid hb1; have HX := Lib.hid hbx
  clear hb1 hbx
  obtain ⟨g1, hg1⟩ : ∃ q, w.heap.size = q := ⟨_, rfl⟩
  rw [hg1] at HX ⊢
  have HG1 := Lib.hid hg1
  clear hg1
  obtain ⟨x0, x1, x2, x3, x4, x5, x6, x7, x8, x9, x10, x11⟩ := HX.out
  go_wp2_with fail
  refine (HVL.out _).mono ?_; rintro e w2 ⟨rfl, hb2⟩
  have HBL := Lib.hid (HB1.out.trans (hb2.mono HB1.out.size))
  have hHeld := zcells_later hb2 HX.out
  clear hb2 HB1 HX x0 x1 x2 x3 x4 x5 x6 x7 x8 x9 x10 x11
  have s1 : ¬ (9223372036854775807 < KW.size + SW.size) := by omega
  go_wp2_with fail
  (refine wp_region_held_drew (S := (fun W => W.cell? ⟨g1, 0, none⟩ = some (.int .i64 1) ∧ W.cell? ⟨g1, 1, none⟩ = some (.string z.kind) ∧ W.cell? ⟨g1, 2, none⟩ = some (.string z.state) ∧ W.cell? ⟨g1, 3, none⟩ = some (.string z.sur) ∧ W.cell? ⟨g1, 4, none⟩ = some (.string z.giv) ∧ W.cell? ⟨g1, 5, none⟩ = some (.string z.num) ∧ W.cell? ⟨g1, 6, none⟩ = some (.string z.nat) ∧ W.cell? ⟨g1, 7, none⟩ = some (.string z.birth) ∧ W.cell? ⟨g1, 8, none⟩ = some (.string z.sex) ∧ W.cell? ⟨g1, 9, none⟩ = some (.string z.exp) ∧ W.cell? ⟨g1, 10, none⟩ = some (.string z.opt) ∧ W.cell? ⟨g1, 11, none⟩ = some (.string z.sec))) (by kernel_rfl) (hHeld) (fun hHeld => ?_))
  ((first | (refine wpAnyH_take (i := 0) (v := ?_) (by simp only [List.getElem?_toArray, List.getElem?_cons_zero]; rfl) (by kernel_rfl) (by kernel_rfl) (by kernel_rfl) (by exact fun _ _ _ h => h) (Or.inl ⟨by rfl, ?_⟩) (by assumption) ?_; rotate_left 1; · (intro w hSw; (try dsimp only at hSw); go_simp; (try with_reducible rfl))) | (refine wpAnyH_take (i := 0) (v := undef) (by simp only [List.getElem?_toArray, List.getElem?_cons_zero]; rfl) (by kernel_rfl) (by kernel_rfl) (by kernel_rfl) (by exact fun _ _ _ h => h) (Or.inr ⟨by rfl, rfl⟩) (by assumption) ?_)); (try simp only [Act.put, List.setIfInBounds_toArray, List.set_cons_zero, List.set_cons_succ]))
  ((first | (refine wpAnyH_take (i := 1) (v := ?_) (by simp only [List.getElem?_toArray, List.getElem?_cons_succ, List.getElem?_cons_zero]; rfl) (by kernel_rfl) (by kernel_rfl) (by kernel_rfl) (by exact fun _ _ _ h => h) (Or.inl ⟨by rfl, ?_⟩) (by assumption) ?_; rotate_left 1; · (intro w hSw; (try dsimp only at hSw); go_simp; (try with_reducible rfl))) | (refine wpAnyH_take (i := 1) (v := undef) (by simp only [List.getElem?_toArray, List.getElem?_cons_succ, List.getElem?_cons_zero]; rfl) (by kernel_rfl) (by kernel_rfl) (by kernel_rfl) (by exact fun _ _ _ h => h) (Or.inr ⟨by rfl, rfl⟩) (by assumption) ?_)); (try simp only [Act.put, List.setIfInBounds_toArray, List.set_cons_zero, List.set_cons_succ]))
  ((first | (refine wpAnyH_take (i := 3) (v := ?_) (by simp only [List.getElem?_toArray, List.getElem?_cons_succ, List.getElem?_cons_zero]; rfl) (by kernel_rfl) (by kernel_rfl) (by kernel_rfl) (by exact fun _ _ _ h => h) (Or.inl ⟨by rfl, ?_⟩) (by assumption) ?_; rotate_left 1; · (intro w hSw; (try dsimp only at hSw); go_simp; (try with_reducible rfl))) | (refine wpAnyH_take (i := 3) (v := undef) (by simp only [List.getElem?_toArray, List.getElem?_cons_succ, List.getElem?_cons_zero]; rfl) (by kernel_rfl) (by kernel_rfl) (by kernel_rfl) (by exact fun _ _ _ h => h) (Or.inr ⟨by rfl, rfl⟩) (by assumption) ?_)); (try simp only [Act.put, List.setIfInBounds_toArray, List.set_cons_zero, List.set_cons_succ]))
  ((first | (refine wpAnyH_take (i := 4) (v := ?_) (by simp only [List.getElem?_toArray, List.getElem?_cons_succ, List.getElem?_cons_zero]; rfl) (by kernel_rfl) (by kernel_rfl) (by kernel_rfl) (by exact fun _ _ _ h => h) (Or.inl ⟨by rfl, ?_⟩) (by assumption) ?_; rotate_left 1; · (intro w hSw; (try dsimp only at hSw); go_simp; (try with_reducible rfl))) | (refine wpAnyH_take (i := 4) (v := undef) (by simp only [List.getElem?_toArray, List.getElem?_cons_succ, List.getElem?_cons_zero]; rfl) (by kernel_rfl) (by kernel_rfl) (by kernel_rfl) (by exact fun _ _ _ h => h) (Or.inr ⟨by rfl, rfl⟩) (by assumption) ?_)); (try simp only [Act.put, List.setIfInBounds_toArray, List.set_cons_zero, List.set_cons_succ]))
  (refine wpAnyH_ready (rs := [2]) (by kernel_rfl) (by simp) ?_; refine AllReadyH.cons (by simp only [List.getElem?_toArray, List.getElem?_cons_succ, List.getElem?_cons_zero]; rfl) (fun K hK => ?_) AllReadyH.nil; go_simp; go_at_call 51; refine (HKW.out _).mono ?_; rintro e w5 ⟨rfl, hb4⟩; (first | have HBN := Lib.hid (HBL.out.trans ((below_undrew2 hb4).mono HBL.out.size)) | have HBN := Lib.hid (HBL.out.trans (hb4.mono HBL.out.size))); replace HBL := HBN; clear HBN; refine hK.out _ _ (⟨cell_later hb4 hHeld.1, cell_later hb4 hHeld.2.1, cell_later hb4 hHeld.2.2.1, cell_later hb4 hHeld.2.2.2.1, cell_later hb4 hHeld.2.2.2.2.1, cell_later hb4 hHeld.2.2.2.2.2.1, cell_later hb4 hHeld.2.2.2.2.2.2.1, cell_later hb4 hHeld.2.2.2.2.2.2.2.1, cell_later hb4 hHeld.2.2.2.2.2.2.2.2.1, cell_later hb4 hHeld.2.2.2.2.2.2.2.2.2.1, cell_later hb4 hHeld.2.2.2.2.2.2.2.2.2.2.1, cell_later hb4 hHeld.2.2.2.2.2.2.2.2.2.2.2⟩) (fun hHeld => ?_); clear hK K; (try simp only [Act.put, List.setIfInBounds_toArray, List.set_cons_zero, List.set_cons_succ]))
  (refine wpAnyH_ready (rs := [5]) (by kernel_rfl) (by simp) ?_; refine AllReadyH.cons (by simp only [List.getElem?_toArray, List.getElem?_cons_succ, List.getElem?_cons_zero]; rfl) (fun K hK => ?_) AllReadyH.nil; go_simp; go_at_call 51; refine (HSW.out _).mono ?_; rintro e w5 ⟨rfl, hb4⟩; (first | have HBN := Lib.hid (HBL.out.trans ((below_undrew2 hb4).mono HBL.out.size)) | have HBN := Lib.hid (HBL.out.trans (hb4.mono HBL.out.size))); replace HBL := HBN; clear HBN; refine hK.out _ _ (⟨cell_later hb4 hHeld.1, cell_later hb4 hHeld.2.1, cell_later hb4 hHeld.2.2.1, cell_later hb4 hHeld.2.2.2.1, cell_later hb4 hHeld.2.2.2.2.1, cell_later hb4 hHeld.2.2.2.2.2.1, cell_later hb4 hHeld.2.2.2.2.2.2.1, cell_later hb4 hHeld.2.2.2.2.2.2.2.1, cell_later hb4 hHeld.2.2.2.2.2.2.2.2.1, cell_later hb4 hHeld.2.2.2.2.2.2.2.2.2.1, cell_later hb4 hHeld.2.2.2.2.2.2.2.2.2.2.1, cell_later hb4 hHeld.2.2.2.2.2.2.2.2.2.2.2⟩) (fun hHeld => ?_); clear hK K; (try simp only [Act.put, List.setIfInBounds_toArray, List.set_cons_zero, List.set_cons_succ]))
  ((first | (refine wpAnyH_take (i := 6) (v := ?_) (by simp only [List.getElem?_toArray, List.getElem?_cons_succ, List.getElem?_cons_zero]; rfl) (by kernel_rfl) (by kernel_rfl) (by kernel_rfl) (by exact fun _ _ _ h => h) (Or.inl ⟨by rfl, ?_⟩) (by assumption) ?_; rotate_left 1; · (intro w hSw; (try dsimp only at hSw); go_simp; (try with_reducible rfl))) | (refine wpAnyH_take (i := 6) (v := undef) (by simp only [List.getElem?_toArray, List.getElem?_cons_succ, List.getElem?_cons_zero]; rfl) (by kernel_rfl) (by kernel_rfl) (by kernel_rfl) (by exact fun _ _ _ h => h) (Or.inr ⟨by rfl, rfl⟩) (by assumption) ?_)); (try simp only [Act.put, List.setIfInBounds_toArray, List.set_cons_zero, List.set_cons_succ]))
  ((first | (refine wpAnyH_take (i := 7) (v := ?_) (by simp only [List.getElem?_toArray, List.getElem?_cons_succ, List.getElem?_cons_zero]; rfl) (by kernel_rfl) (by kernel_rfl) (by kernel_rfl) (by exact fun _ _ _ h => h) (Or.inl ⟨by rfl, ?_⟩) (by assumption) ?_; rotate_left 1; · (intro w hSw; (try dsimp only at hSw); go_simp; (try with_reducible rfl))) | (refine wpAnyH_take (i := 7) (v := undef) (by simp only [List.getElem?_toArray, List.getElem?_cons_succ, List.getElem?_cons_zero]; rfl) (by kernel_rfl) (by kernel_rfl) (by kernel_rfl) (by exact fun _ _ _ h => h) (Or.inr ⟨by rfl, rfl⟩) (by assumption) ?_)); (try simp only [Act.put, List.setIfInBounds_toArray, List.set_cons_zero, List.set_cons_succ]))
  (refine wpAnyH_done (by kernel_rfl) ?_ _)
  have hHeld' := hHeld
  obtain ⟨x0, x1, x2, x3, x4, x5, x6, x7, x8, x9, x10, x11⟩ := hHeld'
  go_wp2_with fail
  refine (HNU.out _).mono ?_; rintro e w5 ⟨rfl, hb4⟩; have HBN := Lib.hid (HBL.out.trans (hb4.mono HBL.out.size)); replace HBL := HBN; clear HBN
  replace hHeld := zcells_later hb4 hHeld
  clear hb4 x0 x1 x2 x3 x4 x5 x6 x7 x8 x9 x10 x11
  go_upto_region 6 with fail
  go_cut [8] from 42 to 48 (fun q W => ∃ g2, q = .pointer (some ⟨g2, 0, none⟩) ∧ ZCells z 1 g1 W ∧ W.cell? ⟨g2, 0, none⟩ = some (.string DB) ∧ W.cell? ⟨g2, 1, none⟩ = some (.string DE) ∧ Below w.heap.size w W)
  case first =>
    (refine wp_region_held_drew (S := (fun W => W.cell? ⟨g1, 0, none⟩ = some (.int .i64 1) ∧ W.cell? ⟨g1, 1, none⟩ = some (.string z.kind) ∧ W.cell? ⟨g1, 2, none⟩ = some (.string z.state) ∧ W.cell? ⟨g1, 3, none⟩ = some (.string z.sur) ∧ W.cell? ⟨g1, 4, none⟩ = some (.string z.giv) ∧ W.cell? ⟨g1, 5, none⟩ = some (.string z.num) ∧ W.cell? ⟨g1, 6, none⟩ = some (.string z.nat) ∧ W.cell? ⟨g1, 7, none⟩ = some (.string z.birth) ∧ W.cell? ⟨g1, 8, none⟩ = some (.string z.sex) ∧ W.cell? ⟨g1, 9, none⟩ = some (.string z.exp) ∧ W.cell? ⟨g1, 10, none⟩ = some (.string z.opt) ∧ W.cell? ⟨g1, 11, none⟩ = some (.string z.sec))) (by kernel_rfl) (hHeld) (fun hHeld => ?_))
    ((first | (refine wpAnyH_take (i := 0) (v := ?_) (by simp only [List.getElem?_toArray, List.getElem?_cons_zero]; rfl) (by kernel_rfl) (by kernel_rfl) (by kernel_rfl) (by exact fun _ _ _ h => h) (Or.inl ⟨by rfl, ?_⟩) (by assumption) ?_; rotate_left 1; · (intro w hSw; (try dsimp only at hSw); go_simp; (try with_reducible rfl))) | (refine wpAnyH_take (i := 0) (v := undef) (by simp only [List.getElem?_toArray, List.getElem?_cons_zero]; rfl) (by kernel_rfl) (by kernel_rfl) (by kernel_rfl) (by exact fun _ _ _ h => h) (Or.inr ⟨by rfl, rfl⟩) (by assumption) ?_)); (try simp only [Act.put, List.setIfInBounds_toArray, List.set_cons_zero, List.set_cons_succ]))
    ((first | (refine wpAnyH_take (i := 1) (v := ?_) (by simp only [List.getElem?_toArray, List.getElem?_cons_succ, List.getElem?_cons_zero]; rfl) (by kernel_rfl) (by kernel_rfl) (by kernel_rfl) (by exact fun _ _ _ h => h) (Or.inl ⟨by rfl, ?_⟩) (by assumption) ?_; rotate_left 1; · (intro w hSw; (try dsimp only at hSw); go_simp; (try with_reducible rfl))) | (refine wpAnyH_take (i := 1) (v := undef) (by simp only [List.getElem?_toArray, List.getElem?_cons_succ, List.getElem?_cons_zero]; rfl) (by kernel_rfl) (by kernel_rfl) (by kernel_rfl) (by exact fun _ _ _ h => h) (Or.inr ⟨by rfl, rfl⟩) (by assumption) ?_)); (try simp only [Act.put, List.setIfInBounds_toArray, List.set_cons_zero, List.set_cons_succ]))
    ((first | (refine wpAnyH_take (i := 3) (v := ?_) (by simp only [List.getElem?_toArray, List.getElem?_cons_succ, List.getElem?_cons_zero]; rfl) (by kernel_rfl) (by kernel_rfl) (by kernel_rfl) (by exact fun _ _ _ h => h) (Or.inl ⟨by rfl, ?_⟩) (by assumption) ?_; rotate_left 1; · (intro w hSw; (try dsimp only at hSw); go_simp; (try with_reducible rfl))) | (refine wpAnyH_take (i := 3) (v := undef) (by simp only [List.getElem?_toArray, List.getElem?_cons_succ, List.getElem?_cons_zero]; rfl) (by kernel_rfl) (by kernel_rfl) (by kernel_rfl) (by exact fun _ _ _ h => h) (Or.inr ⟨by rfl, rfl⟩) (by assumption) ?_)); (try simp only [Act.put, List.setIfInBounds_toArray, List.set_cons_zero, List.set_cons_succ]))
    ((first | (refine wpAnyH_take (i := 4) (v := ?_) (by simp only [List.getElem?_toArray, List.getElem?_cons_succ, List.getElem?_cons_zero]; rfl) (by kernel_rfl) (by kernel_rfl) (by kernel_rfl) (by exact fun _ _ _ h => h) (Or.inl ⟨by rfl, ?_⟩) (by assumption) ?_; rotate_left 1; · (intro w hSw; (try dsimp only at hSw); go_simp; (try with_reducible rfl))) | (refine wpAnyH_take (i := 4) (v := undef) (by simp only [List.getElem?_toArray, List.getElem?_cons_succ, List.getElem?_cons_zero]; rfl) (by kernel_rfl) (by kernel_rfl) (by kernel_rfl) (by exact fun _ _ _ h => h) (Or.inr ⟨by rfl, rfl⟩) (by assumption) ?_)); (try simp only [Act.put, List.setIfInBounds_toArray, List.set_cons_zero, List.set_cons_succ]))
    refine wpAnyH_ready (rs := [2, 7]) (by kernel_rfl) (by simp) ?_
    refine AllReadyH.cons (by simp only [List.getElem?_toArray, List.getElem?_cons_succ, List.getElem?_cons_zero]; rfl) (fun K hK => ?_) ?_
    · (go_simp; go_at_call 53; refine (HDB.out _).mono ?_; rintro e w5 ⟨rfl, hb4⟩; (first | have HBN := Lib.hid (HBL.out.trans ((below_undrew2 hb4).mono HBL.out.size)) | have HBN := Lib.hid (HBL.out.trans (hb4.mono HBL.out.size))); replace HBL := HBN; clear HBN)
      (refine hK.out _ _ (⟨cell_later hb4 hHeld.1, cell_later hb4 hHeld.2.1, cell_later hb4 hHeld.2.2.1, cell_later hb4 hHeld.2.2.2.1, cell_later hb4 hHeld.2.2.2.2.1, cell_later hb4 hHeld.2.2.2.2.2.1, cell_later hb4 hHeld.2.2.2.2.2.2.1, cell_later hb4 hHeld.2.2.2.2.2.2.2.1, cell_later hb4 hHeld.2.2.2.2.2.2.2.2.1, cell_later hb4 hHeld.2.2.2.2.2.2.2.2.2.1, cell_later hb4 hHeld.2.2.2.2.2.2.2.2.2.2.1, cell_later hb4 hHeld.2.2.2.2.2.2.2.2.2.2.2⟩) (fun hHeld => ?_); clear hK K; (try simp only [Act.put, List.setIfInBounds_toArray, List.set_cons_zero, List.set_cons_succ]))
      refine wpAnyH_ready (rs := [5, 7]) (by kernel_rfl) (by simp) ?_
      refine AllReadyH.cons (by simp only [List.getElem?_toArray, List.getElem?_cons_succ, List.getElem?_cons_zero]; rfl) (fun K hK => ?_) ?_
      · (go_simp; go_at_call 53; refine (HDE.out _).mono ?_; rintro e w5 ⟨rfl, hb4⟩; (first | have HBN := Lib.hid (HBL.out.trans ((below_undrew2 hb4).mono HBL.out.size)) | have HBN := Lib.hid (HBL.out.trans (hb4.mono HBL.out.size))); replace HBL := HBN; clear HBN)
        (refine hK.out _ _ (⟨cell_later hb4 hHeld.1, cell_later hb4 hHeld.2.1, cell_later hb4 hHeld.2.2.1, cell_later hb4 hHeld.2.2.2.1, cell_later hb4 hHeld.2.2.2.2.1, cell_later hb4 hHeld.2.2.2.2.2.1, cell_later hb4 hHeld.2.2.2.2.2.2.1, cell_later hb4 hHeld.2.2.2.2.2.2.2.1, cell_later hb4 hHeld.2.2.2.2.2.2.2.2.1, cell_later hb4 hHeld.2.2.2.2.2.2.2.2.2.1, cell_later hb4 hHeld.2.2.2.2.2.2.2.2.2.2.1, cell_later hb4 hHeld.2.2.2.2.2.2.2.2.2.2.2⟩) (fun hHeld => ?_); clear hK K; (try simp only [Act.put, List.setIfInBounds_toArray, List.set_cons_zero, List.set_cons_succ]))
        ((first | (refine wpAnyH_take (i := 6) (v := ?_) (by simp only [List.getElem?_toArray, List.getElem?_cons_succ, List.getElem?_cons_zero]; rfl) (by kernel_rfl) (by kernel_rfl) (by kernel_rfl) (by exact fun _ _ _ h => h) (Or.inl ⟨by rfl, ?_⟩) (by assumption) ?_; rotate_left 1; · (intro w hSw; (try dsimp only at hSw); go_simp; (try with_reducible rfl))) | (refine wpAnyH_take (i := 6) (v := undef) (by simp only [List.getElem?_toArray, List.getElem?_cons_succ, List.getElem?_cons_zero]; rfl) (by kernel_rfl) (by kernel_rfl) (by kernel_rfl) (by exact fun _ _ _ h => h) (Or.inr ⟨by rfl, rfl⟩) (by assumption) ?_)); (try simp only [Act.put, List.setIfInBounds_toArray, List.set_cons_zero, List.set_cons_succ]))
        refine wpAnyH_ready (rs := [7]) (by kernel_rfl) (by simp) ?_
        refine AllReadyH.cons (by simp only [List.getElem?_toArray, List.getElem?_cons_succ, List.getElem?_cons_zero]; rfl) (fun K hK => ?_) ?_
        · (go_simp; have hba := below_alloc1 w5 (.cells #[.string ⟨#[]⟩, .string ⟨#[]⟩] 82); have hnew := heap_alloc_new w5 (.cells #[.string ⟨#[]⟩, .string ⟨#[]⟩] 82); have hsz5 := size_alloc1 w5 (.cells #[.string ⟨#[]⟩, .string ⟨#[]⟩] 82); have HOL := HBL; have HBN := Lib.hid (HBL.out.trans (hba.mono HBL.out.size)); replace HBL := HBN; clear HBN; generalize w5.alloc (.cells #[.string ⟨#[]⟩, .string ⟨#[]⟩] 82) = w6 at hba hnew hsz5 HBL ⊢; obtain ⟨g2, hg2⟩ : ∃ q, w5.heap.size = q := ⟨_, rfl⟩; have hgl : g1 < g2 := hg2 ▸ zcells_lt hHeld; have hgw : w.heap.size ≤ g2 := hg2 ▸ HOL.out.size; have hg6 : g2 < w6.heap.size := (by omega); rw [hg2] at hnew ⊢)
          (refine hK.out _ _ ((show ZCells z 1 g1 w6 from zcells_later (w := w5) (w' := w6) hba hHeld)) (fun hHeld => ?_); clear hK K; (try simp only [Act.put, List.setIfInBounds_toArray, List.set_cons_zero, List.set_cons_succ]))
          have hrow := hnew
          have y0 := cell_of_row w6 g2 0 _ _ _ hrow; have y1 := cell_of_row w6 g2 1 _ _ _ hrow; have f0 := frozen_of_row w6 g2 0 _ _ hrow; have f1 := frozen_of_row w6 g2 1 _ _ hrow
          have hZ : ZCells z 1 g1 w6 := hHeld
          have HPO := Lib.hid (days_done DB DE hZ hgl hgw hrow HBL.out)
          simp only [List.getElem?_toArray, List.getElem?_cons_zero, List.getElem?_cons_succ] at y0 y1
          refine wpAnyH_ready (rs := [8]) (by kernel_rfl) (by simp) ?_
          refine AllReadyH.cons (by simp only [List.getElem?_toArray, List.getElem?_cons_succ, List.getElem?_cons_zero]; rfl) (fun K hK => ?_) AllReadyH.nil
          go_simp
          refine hK.out _ _ HPO.out.1 (fun hHeld => ?_)
          clear hK K
          (try simp only [Act.put, List.setIfInBounds_toArray, List.set_cons_zero, List.set_cons_succ])
          (refine wpAnyH_done (by kernel_rfl) ?_ _)
          go_wp2_with fail
          go_meet
          exact ⟨g2, rfl, HPO.out⟩
        exact AllReadyH.nil
      refine AllReadyH.cons (by simp only [List.getElem?_toArray, List.getElem?_cons_succ, List.getElem?_cons_zero]; rfl) (fun K hK => ?_) ?_
      · (go_simp; have hba := below_alloc1 w5 (.cells #[.string ⟨#[]⟩, .string ⟨#[]⟩] 82); have hnew := heap_alloc_new w5 (.cells #[.string ⟨#[]⟩, .string ⟨#[]⟩] 82); have hsz5 := size_alloc1 w5 (.cells #[.string ⟨#[]⟩, .string ⟨#[]⟩] 82); have HOL := HBL; have HBN := Lib.hid (HBL.out.trans (hba.mono HBL.out.size)); replace HBL := HBN; clear HBN; generalize w5.alloc (.cells #[.string ⟨#[]⟩, .string ⟨#[]⟩] 82) = w6 at hba hnew hsz5 HBL ⊢; obtain ⟨g2, hg2⟩ : ∃ q, w5.heap.size = q := ⟨_, rfl⟩; have hgl : g1 < g2 := hg2 ▸ zcells_lt hHeld; have hgw : w.heap.size ≤ g2 := hg2 ▸ HOL.out.size; have hg6 : g2 < w6.heap.size := (by omega); rw [hg2] at hnew ⊢)
        (refine hK.out _ _ ((show ZCells z 1 g1 w6 from zcells_later (w := w5) (w' := w6) hba hHeld)) (fun hHeld => ?_); clear hK K; (try simp only [Act.put, List.setIfInBounds_toArray, List.set_cons_zero, List.set_cons_succ]))
        refine wpAnyH_ready (rs := [5]) (by kernel_rfl) (by simp) ?_
        refine AllReadyH.cons (by simp only [List.getElem?_toArray, List.getElem?_cons_succ, List.getElem?_cons_zero]; rfl) (fun K hK => ?_) ?_
        · (go_simp; go_at_call 53; refine (HDE.out _).mono ?_; rintro e w5 ⟨rfl, hb4⟩; (first | have HBN := Lib.hid (HBL.out.trans ((below_undrew2 hb4).mono HBL.out.size)) | have HBN := Lib.hid (HBL.out.trans (hb4.mono HBL.out.size))); replace HBL := HBN; clear HBN)
          (refine hK.out _ _ (⟨cell_later hb4 hHeld.1, cell_later hb4 hHeld.2.1, cell_later hb4 hHeld.2.2.1, cell_later hb4 hHeld.2.2.2.1, cell_later hb4 hHeld.2.2.2.2.1, cell_later hb4 hHeld.2.2.2.2.2.1, cell_later hb4 hHeld.2.2.2.2.2.2.1, cell_later hb4 hHeld.2.2.2.2.2.2.2.1, cell_later hb4 hHeld.2.2.2.2.2.2.2.2.1, cell_later hb4 hHeld.2.2.2.2.2.2.2.2.2.1, cell_later hb4 hHeld.2.2.2.2.2.2.2.2.2.2.1, cell_later hb4 hHeld.2.2.2.2.2.2.2.2.2.2.2⟩) (fun hHeld => ?_); clear hK K; (try simp only [Act.put, List.setIfInBounds_toArray, List.set_cons_zero, List.set_cons_succ]))
          ((first | (refine wpAnyH_take (i := 6) (v := ?_) (by simp only [List.getElem?_toArray, List.getElem?_cons_succ, List.getElem?_cons_zero]; rfl) (by kernel_rfl) (by kernel_rfl) (by kernel_rfl) (by exact fun _ _ _ h => h) (Or.inl ⟨by rfl, ?_⟩) (by assumption) ?_; rotate_left 1; · (intro w hSw; (try dsimp only at hSw); go_simp; (try with_reducible rfl))) | (refine wpAnyH_take (i := 6) (v := undef) (by simp only [List.getElem?_toArray, List.getElem?_cons_succ, List.getElem?_cons_zero]; rfl) (by kernel_rfl) (by kernel_rfl) (by kernel_rfl) (by exact fun _ _ _ h => h) (Or.inr ⟨by rfl, rfl⟩) (by assumption) ?_)); (try simp only [Act.put, List.setIfInBounds_toArray, List.set_cons_zero, List.set_cons_succ]))
          have hrow := row_later2 hb4 hg6 hnew
          have y0 := cell_of_row w5 g2 0 _ _ _ hrow; have y1 := cell_of_row w5 g2 1 _ _ _ hrow; have f0 := frozen_of_row w5 g2 0 _ _ hrow; have f1 := frozen_of_row w5 g2 1 _ _ hrow
          have hZ : ZCells z 1 g1 w5 := hHeld
          have HPO := Lib.hid (days_done DB DE hZ hgl hgw hrow HBL.out)
          simp only [List.getElem?_toArray, List.getElem?_cons_zero, List.getElem?_cons_succ] at y0 y1
          refine wpAnyH_ready (rs := [8]) (by kernel_rfl) (by simp) ?_
          refine AllReadyH.cons (by simp only [List.getElem?_toArray, List.getElem?_cons_succ, List.getElem?_cons_zero]; rfl) (fun K hK => ?_) AllReadyH.nil
          go_simp
          refine hK.out _ _ HPO.out.1 (fun hHeld => ?_)
          clear hK K
          (try simp only [Act.put, List.setIfInBounds_toArray, List.set_cons_zero, List.set_cons_succ])
          (refine wpAnyH_done (by kernel_rfl) ?_ _)
          go_wp2_with fail
          go_meet
          exact ⟨g2, rfl, HPO.out⟩
        exact AllReadyH.nil
      exact AllReadyH.nil
    refine AllReadyH.cons (by simp only [List.getElem?_toArray, List.getElem?_cons_succ, List.getElem?_cons_zero]; rfl) (fun K hK => ?_) ?_
    · (go_simp; have hba := below_alloc1 w5 (.cells #[.string ⟨#[]⟩, .string ⟨#[]⟩] 82); have hnew := heap_alloc_new w5 (.cells #[.string ⟨#[]⟩, .string ⟨#[]⟩] 82); have hsz5 := size_alloc1 w5 (.cells #[.string ⟨#[]⟩, .string ⟨#[]⟩] 82); have HOL := HBL; have HBN := Lib.hid (HBL.out.trans (hba.mono HBL.out.size)); replace HBL := HBN; clear HBN; generalize w5.alloc (.cells #[.string ⟨#[]⟩, .string ⟨#[]⟩] 82) = w6 at hba hnew hsz5 HBL ⊢; obtain ⟨g2, hg2⟩ : ∃ q, w5.heap.size = q := ⟨_, rfl⟩; have hgl : g1 < g2 := hg2 ▸ zcells_lt hHeld; have hgw : w.heap.size ≤ g2 := hg2 ▸ HOL.out.size; have hg6 : g2 < w6.heap.size := (by omega); rw [hg2] at hnew ⊢)
      (refine hK.out _ _ ((show ZCells z 1 g1 w6 from zcells_later (w := w5) (w' := w6) hba hHeld)) (fun hHeld => ?_); clear hK K; (try simp only [Act.put, List.setIfInBounds_toArray, List.set_cons_zero, List.set_cons_succ]))
      refine wpAnyH_ready (rs := [2]) (by kernel_rfl) (by simp) ?_
      refine AllReadyH.cons (by simp only [List.getElem?_toArray, List.getElem?_cons_succ, List.getElem?_cons_zero]; rfl) (fun K hK => ?_) ?_
      · (go_simp; go_at_call 53; refine (HDB.out _).mono ?_; rintro e w5 ⟨rfl, hb4⟩; (first | have HBN := Lib.hid (HBL.out.trans ((below_undrew2 hb4).mono HBL.out.size)) | have HBN := Lib.hid (HBL.out.trans (hb4.mono HBL.out.size))); replace HBL := HBN; clear HBN)
        (refine hK.out _ _ (⟨cell_later hb4 hHeld.1, cell_later hb4 hHeld.2.1, cell_later hb4 hHeld.2.2.1, cell_later hb4 hHeld.2.2.2.1, cell_later hb4 hHeld.2.2.2.2.1, cell_later hb4 hHeld.2.2.2.2.2.1, cell_later hb4 hHeld.2.2.2.2.2.2.1, cell_later hb4 hHeld.2.2.2.2.2.2.2.1, cell_later hb4 hHeld.2.2.2.2.2.2.2.2.1, cell_later hb4 hHeld.2.2.2.2.2.2.2.2.2.1, cell_later hb4 hHeld.2.2.2.2.2.2.2.2.2.2.1, cell_later hb4 hHeld.2.2.2.2.2.2.2.2.2.2.2⟩) (fun hHeld => ?_); clear hK K; (try simp only [Act.put, List.setIfInBounds_toArray, List.set_cons_zero, List.set_cons_succ]))
        have hg6' := Nat.lt_of_lt_of_le hg6 hb4.size; replace hnew := row_later2 hb4 hg6 hnew; replace hg6 := hg6'
        refine wpAnyH_ready (rs := [5]) (by kernel_rfl) (by simp) ?_
        refine AllReadyH.cons (by simp only [List.getElem?_toArray, List.getElem?_cons_succ, List.getElem?_cons_zero]; rfl) (fun K hK => ?_) ?_
        · (go_simp; go_at_call 53; refine (HDE.out _).mono ?_; rintro e w5 ⟨rfl, hb4⟩; (first | have HBN := Lib.hid (HBL.out.trans ((below_undrew2 hb4).mono HBL.out.size)) | have HBN := Lib.hid (HBL.out.trans (hb4.mono HBL.out.size))); replace HBL := HBN; clear HBN)
          (refine hK.out _ _ (⟨cell_later hb4 hHeld.1, cell_later hb4 hHeld.2.1, cell_later hb4 hHeld.2.2.1, cell_later hb4 hHeld.2.2.2.1, cell_later hb4 hHeld.2.2.2.2.1, cell_later hb4 hHeld.2.2.2.2.2.1, cell_later hb4 hHeld.2.2.2.2.2.2.1, cell_later hb4 hHeld.2.2.2.2.2.2.2.1, cell_later hb4 hHeld.2.2.2.2.2.2.2.2.1, cell_later hb4 hHeld.2.2.2.2.2.2.2.2.2.1, cell_later hb4 hHeld.2.2.2.2.2.2.2.2.2.2.1, cell_later hb4 hHeld.2.2.2.2.2.2.2.2.2.2.2⟩) (fun hHeld => ?_); clear hK K; (try simp only [Act.put, List.setIfInBounds_toArray, List.set_cons_zero, List.set_cons_succ]))
          ((first | (refine wpAnyH_take (i := 6) (v := ?_) (by simp only [List.getElem?_toArray, List.getElem?_cons_succ, List.getElem?_cons_zero]; rfl) (by kernel_rfl) (by kernel_rfl) (by kernel_rfl) (by exact fun _ _ _ h => h) (Or.inl ⟨by rfl, ?_⟩) (by assumption) ?_; rotate_left 1; · (intro w hSw; (try dsimp only at hSw); go_simp; (try with_reducible rfl))) | (refine wpAnyH_take (i := 6) (v := undef) (by simp only [List.getElem?_toArray, List.getElem?_cons_succ, List.getElem?_cons_zero]; rfl) (by kernel_rfl) (by kernel_rfl) (by kernel_rfl) (by exact fun _ _ _ h => h) (Or.inr ⟨by rfl, rfl⟩) (by assumption) ?_)); (try simp only [Act.put, List.setIfInBounds_toArray, List.set_cons_zero, List.set_cons_succ]))
          have hrow := row_later2 hb4 hg6 hnew
          have y0 := cell_of_row w5 g2 0 _ _ _ hrow; have y1 := cell_of_row w5 g2 1 _ _ _ hrow; have f0 := frozen_of_row w5 g2 0 _ _ hrow; have f1 := frozen_of_row w5 g2 1 _ _ hrow
          have hZ : ZCells z 1 g1 w5 := hHeld
          have HPO := Lib.hid (days_done DB DE hZ hgl hgw hrow HBL.out)
          simp only [List.getElem?_toArray, List.getElem?_cons_zero, List.getElem?_cons_succ] at y0 y1
          refine wpAnyH_ready (rs := [8]) (by kernel_rfl) (by simp) ?_
          refine AllReadyH.cons (by simp only [List.getElem?_toArray, List.getElem?_cons_succ, List.getElem?_cons_zero]; rfl) (fun K hK => ?_) AllReadyH.nil
          go_simp
          refine hK.out _ _ HPO.out.1 (fun hHeld => ?_)
          clear hK K
          (try simp only [Act.put, List.setIfInBounds_toArray, List.set_cons_zero, List.set_cons_succ])
          (refine wpAnyH_done (by kernel_rfl) ?_ _)
          go_wp2_with fail
          go_meet
          exact ⟨g2, rfl, HPO.out⟩
        exact AllReadyH.nil
      exact AllReadyH.nil
    exact AllReadyH.nil
  case rest =>
    obtain ⟨g2, rfl, hz, hd0, hd1, hbl⟩ := hcut
    have HBL := Lib.hid hbl
    have hHeld : ZDays z 1 g1 g2 DB DE wc := zdays_mk hz hd0 hd1
    clear hz hd0 hd1 hbl HDB HDE HKW HSW HNU
    have hH' := hHeld
    obtain ⟨x0, x1, x2, x3, x4, x5, x6, x7, x8, x9, x10, x11, x12, x13⟩ := hH'
    go_wp2_with fail
    refine (HNW.out _).mono ?_; rintro e w5 ⟨rfl, hb4⟩; have HBN := Lib.hid (HBL.out.trans (hb4.mono HBL.out.size)); replace HBL := HBN; clear HBN
    replace hHeld := zdays_later hb4 hHeld
    clear hb4 x0 x1 x2 x3 x4 x5 x6 x7 x8 x9 x10 x11 x12 x13
    have hH' := hHeld
    obtain ⟨x0, x1, x2, x3, x4, x5, x6, x7, x8, x9, x10, x11, x12, x13⟩ := hH'
    go_wp2_with fail
    refine (HNA.out _).mono ?_; rintro e w5 ⟨rfl, hb4⟩; have HBN := Lib.hid (HBL.out.trans (hb4.mono HBL.out.size)); replace HBL := HBN; clear HBN
    replace hHeld := zdays_later hb4 hHeld
    clear hb4 x0 x1 x2 x3 x4 x5 x6 x7 x8 x9 x10 x11 x12 x13
    clear HNW HNA
    have zRS2 : RS.size ≤ 64 := by have := HGD.out.numLe20; have := ZRS.out; split at this <;> omega
    have HOW := Lib.hid (fun W => rwideS (RS ++ z.opt) 15 W (by omega))
    obtain ⟨OW, hOW⟩ : ∃ q : ByteArray, Zn.wS (RS ++ z.opt) 15 = q := ⟨_, rfl⟩
    rw [hOW] at HOW
    have zOW : 15 ≤ OW.size ∧ OW.size ≤ 15 := eq2 (by rw [← hOW]; exact Zn.wS_size (by rw [ByteArray.size_append]; have := HGD.out.opt15 HFM.out; have := ZRS.out; omega))
    have E_OW := Lib.hid hOW
    clear hOW
    have HSE := Lib.hid (fun W => rwideS z.sec 11 W (by omega))
    obtain ⟨SE, hSE⟩ : ∃ q : ByteArray, Zn.wS z.sec 11 = q := ⟨_, rfl⟩
    rw [hSE] at HSE
    have zSE : 11 ≤ SE.size ∧ SE.size ≤ 11 := eq2 (by rw [← hSE]; exact Zn.wS_size zse)
    have E_SE := Lib.hid hSE
    clear hSE
    have s0 : ¬ (9223372036854775807 < RS.size + z.opt.size) := by omega
    have s2 : ¬ (9223372036854775807 < KW.size + SW.size) := by omega
    have s3 : ¬ (9223372036854775807 < KW.size + SW.size + NU.size) := by omega
    have s4 : ¬ (9223372036854775807 < KW.size + SW.size + NU.size + OW.size) := by omega
    have hH' := hHeld
    obtain ⟨x0, x1, x2, x3, x4, x5, x6, x7, x8, x9, x10, x11, x12, x13⟩ := hH'
    go_wp2_with fail
    refine (HOW.out _).mono ?_; rintro e w5 ⟨rfl, hb4⟩; have HBN := Lib.hid (HBL.out.trans (hb4.mono HBL.out.size)); replace HBL := HBN; clear HBN
    replace hHeld := zdays_later hb4 hHeld
    clear hb4 x0 x1 x2 x3 x4 x5 x6 x7 x8 x9 x10 x11 x12 x13
    have hH' := hHeld
    obtain ⟨x0, x1, x2, x3, x4, x5, x6, x7, x8, x9, x10, x11, x12, x13⟩ := hH'
    go_upto_region 13 with fail
    clear s2 s3 s4 x0 x1 x2 x3 x4 x5 x6 x7 x8 x9 x10 x11 x12 x13
    obtain ⟨AA, hAA⟩ : ∃ q : ByteArray, KW ++ SW ++ NU ++ OW = q := ⟨_, rfl⟩
    rw [hAA]
    have zAA : 30 ≤ AA.size ∧ AA.size ≤ 30 := eq2 (by rw [← hAA]; simp only [ByteArray.size_append]; omega)
    have E_AA := Lib.hid hAA
    clear hAA
    have s2 : ¬ (9223372036854775807 < DB.size + z.sex.size) := by omega
    have s3 : ¬ (9223372036854775807 < DB.size + z.sex.size + DE.size) := by omega
    have s4 : ¬ (9223372036854775807 < DB.size + z.sex.size + DE.size + NW.size) := by omega
    have s5 : ¬ (9223372036854775807 < DB.size + z.sex.size + DE.size + NW.size + SE.size) := by omega
    (refine wp_region_held_drew (S := (fun W => W.cell? ⟨g1, 0, none⟩ = some (.int .i64 1) ∧ W.cell? ⟨g1, 1, none⟩ = some (.string z.kind) ∧ W.cell? ⟨g1, 2, none⟩ = some (.string z.state) ∧ W.cell? ⟨g1, 3, none⟩ = some (.string z.sur) ∧ W.cell? ⟨g1, 4, none⟩ = some (.string z.giv) ∧ W.cell? ⟨g1, 5, none⟩ = some (.string z.num) ∧ W.cell? ⟨g1, 6, none⟩ = some (.string z.nat) ∧ W.cell? ⟨g1, 7, none⟩ = some (.string z.birth) ∧ W.cell? ⟨g1, 8, none⟩ = some (.string z.sex) ∧ W.cell? ⟨g1, 9, none⟩ = some (.string z.exp) ∧ W.cell? ⟨g1, 10, none⟩ = some (.string z.opt) ∧ W.cell? ⟨g1, 11, none⟩ = some (.string z.sec) ∧ W.cell? ⟨g2, 0, none⟩ = some (.string DB) ∧ W.cell? ⟨g2, 1, none⟩ = some (.string DE))) (by kernel_rfl) (hHeld) (fun hHeld => ?_))
    ((first | (refine wpAnyH_take (i := 0) (v := ?_) (by simp only [List.getElem?_toArray, List.getElem?_cons_zero]; rfl) (by kernel_rfl) (by kernel_rfl) (by kernel_rfl) (by exact fun _ _ _ h => h) (Or.inl ⟨by rfl, ?_⟩) (by assumption) ?_; rotate_left 1; · (intro w hSw; (try dsimp only at hSw); go_simp; (try with_reducible rfl))) | (refine wpAnyH_take (i := 0) (v := undef) (by simp only [List.getElem?_toArray, List.getElem?_cons_zero]; rfl) (by kernel_rfl) (by kernel_rfl) (by kernel_rfl) (by exact fun _ _ _ h => h) (Or.inr ⟨by rfl, rfl⟩) (by assumption) ?_)); (try simp only [Act.put, List.setIfInBounds_toArray, List.set_cons_zero, List.set_cons_succ]))
    ((first | (refine wpAnyH_take (i := 1) (v := ?_) (by simp only [List.getElem?_toArray, List.getElem?_cons_succ, List.getElem?_cons_zero]; rfl) (by kernel_rfl) (by kernel_rfl) (by kernel_rfl) (by exact fun _ _ _ h => h) (Or.inl ⟨by rfl, ?_⟩) (by assumption) ?_; rotate_left 1; · (intro w hSw; (try dsimp only at hSw); go_simp; (try with_reducible rfl))) | (refine wpAnyH_take (i := 1) (v := undef) (by simp only [List.getElem?_toArray, List.getElem?_cons_succ, List.getElem?_cons_zero]; rfl) (by kernel_rfl) (by kernel_rfl) (by kernel_rfl) (by exact fun _ _ _ h => h) (Or.inr ⟨by rfl, rfl⟩) (by assumption) ?_)); (try simp only [Act.put, List.setIfInBounds_toArray, List.set_cons_zero, List.set_cons_succ]))
    ((first | (refine wpAnyH_take (i := 2) (v := ?_) (by simp only [List.getElem?_toArray, List.getElem?_cons_succ, List.getElem?_cons_zero]; rfl) (by kernel_rfl) (by kernel_rfl) (by kernel_rfl) (by exact fun _ _ _ h => h) (Or.inl ⟨by rfl, ?_⟩) (by assumption) ?_; rotate_left 1; · (intro w hSw; (try dsimp only at hSw); go_simp; (try with_reducible rfl))) | (refine wpAnyH_take (i := 2) (v := undef) (by simp only [List.getElem?_toArray, List.getElem?_cons_succ, List.getElem?_cons_zero]; rfl) (by kernel_rfl) (by kernel_rfl) (by kernel_rfl) (by exact fun _ _ _ h => h) (Or.inr ⟨by rfl, rfl⟩) (by assumption) ?_)); (try simp only [Act.put, List.setIfInBounds_toArray, List.set_cons_zero, List.set_cons_succ]))
    ((first | (refine wpAnyH_take (i := 3) (v := ?_) (by simp only [List.getElem?_toArray, List.getElem?_cons_succ, List.getElem?_cons_zero]; rfl) (by kernel_rfl) (by kernel_rfl) (by kernel_rfl) (by exact fun _ _ _ h => h) (Or.inl ⟨by rfl, ?_⟩) (by assumption) ?_; rotate_left 1; · (intro w hSw; (try dsimp only at hSw); go_simp; (try with_reducible rfl))) | (refine wpAnyH_take (i := 3) (v := undef) (by simp only [List.getElem?_toArray, List.getElem?_cons_succ, List.getElem?_cons_zero]; rfl) (by kernel_rfl) (by kernel_rfl) (by kernel_rfl) (by exact fun _ _ _ h => h) (Or.inr ⟨by rfl, rfl⟩) (by assumption) ?_)); (try simp only [Act.put, List.setIfInBounds_toArray, List.set_cons_zero, List.set_cons_succ]))
    ((first | (refine wpAnyH_take (i := 4) (v := ?_) (by simp only [List.getElem?_toArray, List.getElem?_cons_succ, List.getElem?_cons_zero]; rfl) (by kernel_rfl) (by kernel_rfl) (by kernel_rfl) (by exact fun _ _ _ h => h) (Or.inl ⟨by rfl, ?_⟩) (by assumption) ?_; rotate_left 1; · (intro w hSw; (try dsimp only at hSw); go_simp; (try with_reducible rfl))) | (refine wpAnyH_take (i := 4) (v := undef) (by simp only [List.getElem?_toArray, List.getElem?_cons_succ, List.getElem?_cons_zero]; rfl) (by kernel_rfl) (by kernel_rfl) (by kernel_rfl) (by exact fun _ _ _ h => h) (Or.inr ⟨by rfl, rfl⟩) (by assumption) ?_)); (try simp only [Act.put, List.setIfInBounds_toArray, List.set_cons_zero, List.set_cons_succ]))
    ((first | (refine wpAnyH_take (i := 5) (v := ?_) (by simp only [List.getElem?_toArray, List.getElem?_cons_succ, List.getElem?_cons_zero]; rfl) (by kernel_rfl) (by kernel_rfl) (by kernel_rfl) (by exact fun _ _ _ h => h) (Or.inl ⟨by rfl, ?_⟩) (by assumption) ?_; rotate_left 1; · (intro w hSw; (try dsimp only at hSw); go_simp; (try with_reducible rfl))) | (refine wpAnyH_take (i := 5) (v := undef) (by simp only [List.getElem?_toArray, List.getElem?_cons_succ, List.getElem?_cons_zero]; rfl) (by kernel_rfl) (by kernel_rfl) (by kernel_rfl) (by exact fun _ _ _ h => h) (Or.inr ⟨by rfl, rfl⟩) (by assumption) ?_)); (try simp only [Act.put, List.setIfInBounds_toArray, List.set_cons_zero, List.set_cons_succ]))
    ((first | (refine wpAnyH_take (i := 6) (v := ?_) (by simp only [List.getElem?_toArray, List.getElem?_cons_succ, List.getElem?_cons_zero]; rfl) (by kernel_rfl) (by kernel_rfl) (by kernel_rfl) (by exact fun _ _ _ h => h) (Or.inl ⟨by rfl, ?_⟩) (by assumption) ?_; rotate_left 1; · (intro w hSw; (try dsimp only at hSw); go_simp; (try with_reducible rfl))) | (refine wpAnyH_take (i := 6) (v := undef) (by simp only [List.getElem?_toArray, List.getElem?_cons_succ, List.getElem?_cons_zero]; rfl) (by kernel_rfl) (by kernel_rfl) (by kernel_rfl) (by exact fun _ _ _ h => h) (Or.inr ⟨by rfl, rfl⟩) (by assumption) ?_)); (try simp only [Act.put, List.setIfInBounds_toArray, List.set_cons_zero, List.set_cons_succ]))
    ((first | (refine wpAnyH_take (i := 7) (v := ?_) (by simp only [List.getElem?_toArray, List.getElem?_cons_succ, List.getElem?_cons_zero]; rfl) (by kernel_rfl) (by kernel_rfl) (by kernel_rfl) (by exact fun _ _ _ h => h) (Or.inl ⟨by rfl, ?_⟩) (by assumption) ?_; rotate_left 1; · (intro w hSw; (try dsimp only at hSw); go_simp; (try with_reducible rfl))) | (refine wpAnyH_take (i := 7) (v := undef) (by simp only [List.getElem?_toArray, List.getElem?_cons_succ, List.getElem?_cons_zero]; rfl) (by kernel_rfl) (by kernel_rfl) (by kernel_rfl) (by exact fun _ _ _ h => h) (Or.inr ⟨by rfl, rfl⟩) (by assumption) ?_)); (try simp only [Act.put, List.setIfInBounds_toArray, List.set_cons_zero, List.set_cons_succ]))
    ((first | (refine wpAnyH_take (i := 8) (v := ?_) (by simp only [List.getElem?_toArray, List.getElem?_cons_succ, List.getElem?_cons_zero]; rfl) (by kernel_rfl) (by kernel_rfl) (by kernel_rfl) (by exact fun _ _ _ h => h) (Or.inl ⟨by rfl, ?_⟩) (by assumption) ?_; rotate_left 1; · (intro w hSw; (try dsimp only at hSw); go_simp; (try with_reducible rfl))) | (refine wpAnyH_take (i := 8) (v := undef) (by simp only [List.getElem?_toArray, List.getElem?_cons_succ, List.getElem?_cons_zero]; rfl) (by kernel_rfl) (by kernel_rfl) (by kernel_rfl) (by exact fun _ _ _ h => h) (Or.inr ⟨by rfl, rfl⟩) (by assumption) ?_)); (try simp only [Act.put, List.setIfInBounds_toArray, List.set_cons_zero, List.set_cons_succ]))
    ((first | (refine wpAnyH_take (i := 9) (v := ?_) (by simp only [List.getElem?_toArray, List.getElem?_cons_succ, List.getElem?_cons_zero]; rfl) (by kernel_rfl) (by kernel_rfl) (by kernel_rfl) (by exact fun _ _ _ h => h) (Or.inl ⟨by rfl, ?_⟩) (by assumption) ?_; rotate_left 1; · (intro w hSw; (try dsimp only at hSw); go_simp; (try with_reducible rfl))) | (refine wpAnyH_take (i := 9) (v := undef) (by simp only [List.getElem?_toArray, List.getElem?_cons_succ, List.getElem?_cons_zero]; rfl) (by kernel_rfl) (by kernel_rfl) (by kernel_rfl) (by exact fun _ _ _ h => h) (Or.inr ⟨by rfl, rfl⟩) (by assumption) ?_)); (try simp only [Act.put, List.setIfInBounds_toArray, List.set_cons_zero, List.set_cons_succ]))
    ((first | (refine wpAnyH_take (i := 10) (v := ?_) (by simp only [List.getElem?_toArray, List.getElem?_cons_succ, List.getElem?_cons_zero]; rfl) (by kernel_rfl) (by kernel_rfl) (by kernel_rfl) (by exact fun _ _ _ h => h) (Or.inl ⟨by rfl, ?_⟩) (by assumption) ?_; rotate_left 1; · (intro w hSw; (try dsimp only at hSw); go_simp; (try with_reducible rfl))) | (refine wpAnyH_take (i := 10) (v := undef) (by simp only [List.getElem?_toArray, List.getElem?_cons_succ, List.getElem?_cons_zero]; rfl) (by kernel_rfl) (by kernel_rfl) (by kernel_rfl) (by exact fun _ _ _ h => h) (Or.inr ⟨by rfl, rfl⟩) (by assumption) ?_)); (try simp only [Act.put, List.setIfInBounds_toArray, List.set_cons_zero, List.set_cons_succ]))
    ((first | (refine wpAnyH_take (i := 11) (v := ?_) (by simp only [List.getElem?_toArray, List.getElem?_cons_succ, List.getElem?_cons_zero]; rfl) (by kernel_rfl) (by kernel_rfl) (by kernel_rfl) (by exact fun _ _ _ h => h) (Or.inl ⟨by rfl, ?_⟩) (by assumption) ?_; rotate_left 1; · (intro w hSw; (try dsimp only at hSw); go_simp; (try with_reducible rfl))) | (refine wpAnyH_take (i := 11) (v := undef) (by simp only [List.getElem?_toArray, List.getElem?_cons_succ, List.getElem?_cons_zero]; rfl) (by kernel_rfl) (by kernel_rfl) (by kernel_rfl) (by exact fun _ _ _ h => h) (Or.inr ⟨by rfl, rfl⟩) (by assumption) ?_)); (try simp only [Act.put, List.setIfInBounds_toArray, List.set_cons_zero, List.set_cons_succ]))
    (refine wpAnyH_ready (rs := [12]) (by kernel_rfl) (by simp) ?_; refine AllReadyH.cons (by simp only [List.getElem?_toArray, List.getElem?_cons_succ, List.getElem?_cons_zero]; rfl) (fun K hK => ?_) AllReadyH.nil; go_simp; go_at_call 51; refine (HSE.out _).mono ?_; rintro e w5 ⟨rfl, hb4⟩; (first | have HBN := Lib.hid (HBL.out.trans ((below_undrew2 hb4).mono HBL.out.size)) | have HBN := Lib.hid (HBL.out.trans (hb4.mono HBL.out.size))); replace HBL := HBN; clear HBN; refine hK.out _ _ (⟨cell_later hb4 hHeld.1, cell_later hb4 hHeld.2.1, cell_later hb4 hHeld.2.2.1, cell_later hb4 hHeld.2.2.2.1, cell_later hb4 hHeld.2.2.2.2.1, cell_later hb4 hHeld.2.2.2.2.2.1, cell_later hb4 hHeld.2.2.2.2.2.2.1, cell_later hb4 hHeld.2.2.2.2.2.2.2.1, cell_later hb4 hHeld.2.2.2.2.2.2.2.2.1, cell_later hb4 hHeld.2.2.2.2.2.2.2.2.2.1, cell_later hb4 hHeld.2.2.2.2.2.2.2.2.2.2.1, cell_later hb4 hHeld.2.2.2.2.2.2.2.2.2.2.2.1, cell_later hb4 hHeld.2.2.2.2.2.2.2.2.2.2.2.2.1, cell_later hb4 hHeld.2.2.2.2.2.2.2.2.2.2.2.2.2⟩) (fun hHeld => ?_); clear hK K; (try simp only [Act.put, List.setIfInBounds_toArray, List.set_cons_zero, List.set_cons_succ]))
    ((first | (refine wpAnyH_take (i := 13) (v := ?_) (by simp only [List.getElem?_toArray, List.getElem?_cons_succ, List.getElem?_cons_zero]; rfl) (by kernel_rfl) (by kernel_rfl) (by kernel_rfl) (by exact fun _ _ _ h => h) (Or.inl ⟨by rfl, ?_⟩) (by assumption) ?_; rotate_left 1; · (intro w hSw; (try dsimp only at hSw); go_simp; (try with_reducible rfl))) | (refine wpAnyH_take (i := 13) (v := undef) (by simp only [List.getElem?_toArray, List.getElem?_cons_succ, List.getElem?_cons_zero]; rfl) (by kernel_rfl) (by kernel_rfl) (by kernel_rfl) (by exact fun _ _ _ h => h) (Or.inr ⟨by rfl, rfl⟩) (by assumption) ?_)); (try simp only [Act.put, List.setIfInBounds_toArray, List.set_cons_zero, List.set_cons_succ]))
    ((first | (refine wpAnyH_take (i := 14) (v := ?_) (by simp only [List.getElem?_toArray, List.getElem?_cons_succ, List.getElem?_cons_zero]; rfl) (by kernel_rfl) (by kernel_rfl) (by kernel_rfl) (by exact fun _ _ _ h => h) (Or.inl ⟨by rfl, ?_⟩) (by assumption) ?_; rotate_left 1; · (intro w hSw; (try dsimp only at hSw); go_simp; (try with_reducible rfl))) | (refine wpAnyH_take (i := 14) (v := undef) (by simp only [List.getElem?_toArray, List.getElem?_cons_succ, List.getElem?_cons_zero]; rfl) (by kernel_rfl) (by kernel_rfl) (by kernel_rfl) (by exact fun _ _ _ h => h) (Or.inr ⟨by rfl, rfl⟩) (by assumption) ?_)); (try simp only [Act.put, List.setIfInBounds_toArray, List.set_cons_zero, List.set_cons_succ]))
    (refine wpAnyH_done (by kernel_rfl) ?_ _)
    go_upto_region 14 with fail
    clear s2 s3 s4 s5
    obtain ⟨BB, hBB⟩ : ∃ q : ByteArray, DB ++ z.sex ++ DE ++ NW ++ SE = q := ⟨_, rfl⟩
    rw [hBB]
    have zBB : 29 ≤ BB.size ∧ BB.size ≤ 29 := eq2 (by rw [← hBB]; simp only [ByteArray.size_append]; omega)
    have E_BB := Lib.hid hBB
    clear hBB
    have j30 : (30 : Int) ≤ (AA.size : Int) := by omega
    obtain ⟨P9, hP9⟩ : ∃ q, AA.extract 5 30 = q := ⟨_, rfl⟩
    have zP9 : 25 ≤ P9.size ∧ P9.size ≤ 25 := eq2 (by rw [← hP9, ByteArray.size_extract]; omega)
    have i7 : (7 : Int) ≤ (BB.size : Int) := by omega
    have i15 : (15 : Int) ≤ (BB.size : Int) := by omega
    have i29 : (29 : Int) ≤ (BB.size : Int) := by omega
    obtain ⟨P0, hP0⟩ : ∃ q, BB.extract 0 7 = q := ⟨_, rfl⟩
    have zP0 : 7 ≤ P0.size ∧ P0.size ≤ 7 := eq2 (by rw [← hP0, ByteArray.size_extract]; omega)
    obtain ⟨P1, hP1⟩ : ∃ q, BB.extract 8 15 = q := ⟨_, rfl⟩
    have zP1 : 7 ≤ P1.size ∧ P1.size ≤ 7 := eq2 (by rw [← hP1, ByteArray.size_extract]; omega)
    obtain ⟨P2, hP2⟩ : ∃ q, BB.extract 18 29 = q := ⟨_, rfl⟩
    have zP2 : 11 ≤ P2.size ∧ P2.size ≤ 11 := eq2 (by rw [← hP2, ByteArray.size_extract]; omega)
    have HDG := Lib.hid (fun W => rdigit (P9 ++ P0 ++ P1 ++ P2) W (by simp only [ByteArray.size_append]; omega))
    obtain ⟨DG, hDG⟩ : ∃ q : ByteArray, Opt.digS (P9 ++ P0 ++ P1 ++ P2) = q := ⟨_, rfl⟩
    obtain ⟨DGx, hDGx⟩ : ∃ q, Opt.digE (P9 ++ P0 ++ P1 ++ P2) = q := ⟨_, rfl⟩
    rw [hDG, hDGx] at HDG
    have zDG : DG.size ≤ 1 := by rw [← hDG]; exact digS_one _
    have E_DG := Lib.hid hDG
    clear hDG hDGx
    have s2 : ¬ (9223372036854775807 < P9.size + P0.size) := by omega
    have s3 : ¬ (9223372036854775807 < P9.size + P0.size + P1.size) := by omega
    have s4 : ¬ (9223372036854775807 < P9.size + P0.size + P1.size + P2.size) := by omega
    (refine wp_region_held_drew (S := (fun W => W.cell? ⟨g1, 0, none⟩ = some (.int .i64 1) ∧ W.cell? ⟨g1, 1, none⟩ = some (.string z.kind) ∧ W.cell? ⟨g1, 2, none⟩ = some (.string z.state) ∧ W.cell? ⟨g1, 3, none⟩ = some (.string z.sur) ∧ W.cell? ⟨g1, 4, none⟩ = some (.string z.giv) ∧ W.cell? ⟨g1, 5, none⟩ = some (.string z.num) ∧ W.cell? ⟨g1, 6, none⟩ = some (.string z.nat) ∧ W.cell? ⟨g1, 7, none⟩ = some (.string z.birth) ∧ W.cell? ⟨g1, 8, none⟩ = some (.string z.sex) ∧ W.cell? ⟨g1, 9, none⟩ = some (.string z.exp) ∧ W.cell? ⟨g1, 10, none⟩ = some (.string z.opt) ∧ W.cell? ⟨g1, 11, none⟩ = some (.string z.sec) ∧ W.cell? ⟨g2, 0, none⟩ = some (.string DB) ∧ W.cell? ⟨g2, 1, none⟩ = some (.string DE))) (by kernel_rfl) (hHeld) (fun hHeld => ?_))
    ((first | (refine wpAnyH_take (i := 0) (v := ?_) (by simp only [List.getElem?_toArray, List.getElem?_cons_zero]; rfl) (by kernel_rfl) (by kernel_rfl) (by kernel_rfl) (by exact fun _ _ _ h => h) (Or.inl ⟨by rfl, ?_⟩) (by assumption) ?_; rotate_left 1; · (intro w hSw; (try dsimp only at hSw); go_simp; (try with_reducible rfl))) | (refine wpAnyH_take (i := 0) (v := undef) (by simp only [List.getElem?_toArray, List.getElem?_cons_zero]; rfl) (by kernel_rfl) (by kernel_rfl) (by kernel_rfl) (by exact fun _ _ _ h => h) (Or.inr ⟨by rfl, rfl⟩) (by assumption) ?_)); (try simp only [Act.put, List.setIfInBounds_toArray, List.set_cons_zero, List.set_cons_succ]))
    ((first | (refine wpAnyH_take (i := 1) (v := ?_) (by simp only [List.getElem?_toArray, List.getElem?_cons_succ, List.getElem?_cons_zero]; rfl) (by kernel_rfl) (by kernel_rfl) (by kernel_rfl) (by exact fun _ _ _ h => h) (Or.inl ⟨by rfl, ?_⟩) (by assumption) ?_; rotate_left 1; · (intro w hSw; (try dsimp only at hSw); go_simp; (try with_reducible rfl))) | (refine wpAnyH_take (i := 1) (v := undef) (by simp only [List.getElem?_toArray, List.getElem?_cons_succ, List.getElem?_cons_zero]; rfl) (by kernel_rfl) (by kernel_rfl) (by kernel_rfl) (by exact fun _ _ _ h => h) (Or.inr ⟨by rfl, rfl⟩) (by assumption) ?_)); (try simp only [Act.put, List.setIfInBounds_toArray, List.set_cons_zero, List.set_cons_succ]))
    ((first | (refine wpAnyH_take (i := 2) (v := ?_) (by simp only [List.getElem?_toArray, List.getElem?_cons_succ, List.getElem?_cons_zero]; rfl) (by kernel_rfl) (by kernel_rfl) (by kernel_rfl) (by exact fun _ _ _ h => h) (Or.inl ⟨by rfl, ?_⟩) (by assumption) ?_; rotate_left 1; · (intro w hSw; (try dsimp only at hSw); go_simp; (try with_reducible rfl))) | (refine wpAnyH_take (i := 2) (v := undef) (by simp only [List.getElem?_toArray, List.getElem?_cons_succ, List.getElem?_cons_zero]; rfl) (by kernel_rfl) (by kernel_rfl) (by kernel_rfl) (by exact fun _ _ _ h => h) (Or.inr ⟨by rfl, rfl⟩) (by assumption) ?_)); (try simp only [Act.put, List.setIfInBounds_toArray, List.set_cons_zero, List.set_cons_succ]))
    ((first | (refine wpAnyH_take (i := 3) (v := ?_) (by simp only [List.getElem?_toArray, List.getElem?_cons_succ, List.getElem?_cons_zero]; rfl) (by kernel_rfl) (by kernel_rfl) (by kernel_rfl) (by exact fun _ _ _ h => h) (Or.inl ⟨by rfl, ?_⟩) (by assumption) ?_; rotate_left 1; · (intro w hSw; (try dsimp only at hSw); go_simp; (try with_reducible rfl))) | (refine wpAnyH_take (i := 3) (v := undef) (by simp only [List.getElem?_toArray, List.getElem?_cons_succ, List.getElem?_cons_zero]; rfl) (by kernel_rfl) (by kernel_rfl) (by kernel_rfl) (by exact fun _ _ _ h => h) (Or.inr ⟨by rfl, rfl⟩) (by assumption) ?_)); (try simp only [Act.put, List.setIfInBounds_toArray, List.set_cons_zero, List.set_cons_succ]))
    ((first | (refine wpAnyH_take (i := 4) (v := ?_) (by simp only [List.getElem?_toArray, List.getElem?_cons_succ, List.getElem?_cons_zero]; rfl) (by kernel_rfl) (by kernel_rfl) (by kernel_rfl) (by exact fun _ _ _ h => h) (Or.inl ⟨by rfl, ?_⟩) (by assumption) ?_; rotate_left 1; · (intro w hSw; (try dsimp only at hSw); go_simp; (try with_reducible rfl))) | (refine wpAnyH_take (i := 4) (v := undef) (by simp only [List.getElem?_toArray, List.getElem?_cons_succ, List.getElem?_cons_zero]; rfl) (by kernel_rfl) (by kernel_rfl) (by kernel_rfl) (by exact fun _ _ _ h => h) (Or.inr ⟨by rfl, rfl⟩) (by assumption) ?_)); (try simp only [Act.put, List.setIfInBounds_toArray, List.set_cons_zero, List.set_cons_succ]))
    ((first | (refine wpAnyH_take (i := 5) (v := ?_) (by simp only [List.getElem?_toArray, List.getElem?_cons_succ, List.getElem?_cons_zero]; rfl) (by kernel_rfl) (by kernel_rfl) (by kernel_rfl) (by exact fun _ _ _ h => h) (Or.inl ⟨by rfl, ?_⟩) (by assumption) ?_; rotate_left 1; · (intro w hSw; (try dsimp only at hSw); go_simp; (try with_reducible rfl))) | (refine wpAnyH_take (i := 5) (v := undef) (by simp only [List.getElem?_toArray, List.getElem?_cons_succ, List.getElem?_cons_zero]; rfl) (by kernel_rfl) (by kernel_rfl) (by kernel_rfl) (by exact fun _ _ _ h => h) (Or.inr ⟨by rfl, rfl⟩) (by assumption) ?_)); (try simp only [Act.put, List.setIfInBounds_toArray, List.set_cons_zero, List.set_cons_succ]))
    ((first | (refine wpAnyH_take (i := 6) (v := ?_) (by simp only [List.getElem?_toArray, List.getElem?_cons_succ, List.getElem?_cons_zero]; rfl) (by kernel_rfl) (by kernel_rfl) (by kernel_rfl) (by exact fun _ _ _ h => h) (Or.inl ⟨by rfl, ?_⟩) (by assumption) ?_; rotate_left 1; · (intro w hSw; (try dsimp only at hSw); go_simp; (try with_reducible rfl))) | (refine wpAnyH_take (i := 6) (v := undef) (by simp only [List.getElem?_toArray, List.getElem?_cons_succ, List.getElem?_cons_zero]; rfl) (by kernel_rfl) (by kernel_rfl) (by kernel_rfl) (by exact fun _ _ _ h => h) (Or.inr ⟨by rfl, rfl⟩) (by assumption) ?_)); (try simp only [Act.put, List.setIfInBounds_toArray, List.set_cons_zero, List.set_cons_succ]))
    ((first | (refine wpAnyH_take (i := 7) (v := ?_) (by simp only [List.getElem?_toArray, List.getElem?_cons_succ, List.getElem?_cons_zero]; rfl) (by kernel_rfl) (by kernel_rfl) (by kernel_rfl) (by exact fun _ _ _ h => h) (Or.inl ⟨by rfl, ?_⟩) (by assumption) ?_; rotate_left 1; · (intro w hSw; (try dsimp only at hSw); go_simp; (try with_reducible rfl))) | (refine wpAnyH_take (i := 7) (v := undef) (by simp only [List.getElem?_toArray, List.getElem?_cons_succ, List.getElem?_cons_zero]; rfl) (by kernel_rfl) (by kernel_rfl) (by kernel_rfl) (by exact fun _ _ _ h => h) (Or.inr ⟨by rfl, rfl⟩) (by assumption) ?_)); (try simp only [Act.put, List.setIfInBounds_toArray, List.set_cons_zero, List.set_cons_succ]))
    ((first | (refine wpAnyH_take (i := 8) (v := ?_) (by simp only [List.getElem?_toArray, List.getElem?_cons_succ, List.getElem?_cons_zero]; rfl) (by kernel_rfl) (by kernel_rfl) (by kernel_rfl) (by exact fun _ _ _ h => h) (Or.inl ⟨by rfl, ?_⟩) (by assumption) ?_; rotate_left 1; · (intro w hSw; (try dsimp only at hSw); go_simp; (try with_reducible rfl))) | (refine wpAnyH_take (i := 8) (v := undef) (by simp only [List.getElem?_toArray, List.getElem?_cons_succ, List.getElem?_cons_zero]; rfl) (by kernel_rfl) (by kernel_rfl) (by kernel_rfl) (by exact fun _ _ _ h => h) (Or.inr ⟨by rfl, rfl⟩) (by assumption) ?_)); (try simp only [Act.put, List.setIfInBounds_toArray, List.set_cons_zero, List.set_cons_succ]))
    ((first | (refine wpAnyH_take (i := 9) (v := ?_) (by simp only [List.getElem?_toArray, List.getElem?_cons_succ, List.getElem?_cons_zero]; rfl) (by kernel_rfl) (by kernel_rfl) (by kernel_rfl) (by exact fun _ _ _ h => h) (Or.inl ⟨by rfl, ?_⟩) (by assumption) ?_; rotate_left 1; · (intro w hSw; (try dsimp only at hSw); go_simp; (try with_reducible rfl))) | (refine wpAnyH_take (i := 9) (v := undef) (by simp only [List.getElem?_toArray, List.getElem?_cons_succ, List.getElem?_cons_zero]; rfl) (by kernel_rfl) (by kernel_rfl) (by kernel_rfl) (by exact fun _ _ _ h => h) (Or.inr ⟨by rfl, rfl⟩) (by assumption) ?_)); (try simp only [Act.put, List.setIfInBounds_toArray, List.set_cons_zero, List.set_cons_succ]))
    ((first | (refine wpAnyH_take (i := 10) (v := ?_) (by simp only [List.getElem?_toArray, List.getElem?_cons_succ, List.getElem?_cons_zero]; rfl) (by kernel_rfl) (by kernel_rfl) (by kernel_rfl) (by exact fun _ _ _ h => h) (Or.inl ⟨by rfl, ?_⟩) (by assumption) ?_; rotate_left 1; · (intro w hSw; (try dsimp only at hSw); go_simp; (try with_reducible rfl))) | (refine wpAnyH_take (i := 10) (v := undef) (by simp only [List.getElem?_toArray, List.getElem?_cons_succ, List.getElem?_cons_zero]; rfl) (by kernel_rfl) (by kernel_rfl) (by kernel_rfl) (by exact fun _ _ _ h => h) (Or.inr ⟨by rfl, rfl⟩) (by assumption) ?_)); (try simp only [Act.put, List.setIfInBounds_toArray, List.set_cons_zero, List.set_cons_succ]))
    (refine wpAnyH_ready (rs := [11]) (by kernel_rfl) (by simp) ?_; refine AllReadyH.cons (by simp only [List.getElem?_toArray, List.getElem?_cons_succ, List.getElem?_cons_zero]; rfl) (fun K hK => ?_) AllReadyH.nil; go_simp; go_at_call 55; refine (HDG.out _).mono ?_; rintro e w5 ⟨rfl, hb4⟩; (first | have HBN := Lib.hid (HBL.out.trans ((below_undrew2 hb4).mono HBL.out.size)) | have HBN := Lib.hid (HBL.out.trans (hb4.mono HBL.out.size))); replace HBL := HBN; clear HBN; refine hK.out _ _ (⟨cell_later hb4 hHeld.1, cell_later hb4 hHeld.2.1, cell_later hb4 hHeld.2.2.1, cell_later hb4 hHeld.2.2.2.1, cell_later hb4 hHeld.2.2.2.2.1, cell_later hb4 hHeld.2.2.2.2.2.1, cell_later hb4 hHeld.2.2.2.2.2.2.1, cell_later hb4 hHeld.2.2.2.2.2.2.2.1, cell_later hb4 hHeld.2.2.2.2.2.2.2.2.1, cell_later hb4 hHeld.2.2.2.2.2.2.2.2.2.1, cell_later hb4 hHeld.2.2.2.2.2.2.2.2.2.2.1, cell_later hb4 hHeld.2.2.2.2.2.2.2.2.2.2.2.1, cell_later hb4 hHeld.2.2.2.2.2.2.2.2.2.2.2.2.1, cell_later hb4 hHeld.2.2.2.2.2.2.2.2.2.2.2.2.2⟩) (fun hHeld => ?_); clear hK K; (try simp only [Act.put, List.setIfInBounds_toArray, List.set_cons_zero, List.set_cons_succ]))
    ((first | (refine wpAnyH_take (i := 12) (v := ?_) (by simp only [List.getElem?_toArray, List.getElem?_cons_succ, List.getElem?_cons_zero]; rfl) (by kernel_rfl) (by kernel_rfl) (by kernel_rfl) (by exact fun _ _ _ h => h) (Or.inl ⟨by rfl, ?_⟩) (by assumption) ?_; rotate_left 1; · (intro w hSw; (try dsimp only at hSw); go_simp; (try with_reducible rfl))) | (refine wpAnyH_take (i := 12) (v := undef) (by simp only [List.getElem?_toArray, List.getElem?_cons_succ, List.getElem?_cons_zero]; rfl) (by kernel_rfl) (by kernel_rfl) (by kernel_rfl) (by exact fun _ _ _ h => h) (Or.inr ⟨by rfl, rfl⟩) (by assumption) ?_)); (try simp only [Act.put, List.setIfInBounds_toArray, List.set_cons_zero, List.set_cons_succ]))
    ((first | (refine wpAnyH_take (i := 13) (v := ?_) (by simp only [List.getElem?_toArray, List.getElem?_cons_succ, List.getElem?_cons_zero]; rfl) (by kernel_rfl) (by kernel_rfl) (by kernel_rfl) (by exact fun _ _ _ h => h) (Or.inl ⟨by rfl, ?_⟩) (by assumption) ?_; rotate_left 1; · (intro w hSw; (try dsimp only at hSw); go_simp; (try with_reducible rfl))) | (refine wpAnyH_take (i := 13) (v := undef) (by simp only [List.getElem?_toArray, List.getElem?_cons_succ, List.getElem?_cons_zero]; rfl) (by kernel_rfl) (by kernel_rfl) (by kernel_rfl) (by exact fun _ _ _ h => h) (Or.inr ⟨by rfl, rfl⟩) (by assumption) ?_)); (try simp only [Act.put, List.setIfInBounds_toArray, List.set_cons_zero, List.set_cons_succ]))
    ((first | (refine wpAnyH_take (i := 14) (v := ?_) (by simp only [List.getElem?_toArray, List.getElem?_cons_succ, List.getElem?_cons_zero]; rfl) (by kernel_rfl) (by kernel_rfl) (by kernel_rfl) (by exact fun _ _ _ h => h) (Or.inl ⟨by rfl, ?_⟩) (by assumption) ?_; rotate_left 1; · (intro w hSw; (try dsimp only at hSw); go_simp; (try with_reducible rfl))) | (refine wpAnyH_take (i := 14) (v := undef) (by simp only [List.getElem?_toArray, List.getElem?_cons_succ, List.getElem?_cons_zero]; rfl) (by kernel_rfl) (by kernel_rfl) (by kernel_rfl) (by exact fun _ _ _ h => h) (Or.inr ⟨by rfl, rfl⟩) (by assumption) ?_)); (try simp only [Act.put, List.setIfInBounds_toArray, List.set_cons_zero, List.set_cons_succ]))
    ((first | (refine wpAnyH_take (i := 15) (v := ?_) (by simp only [List.getElem?_toArray, List.getElem?_cons_succ, List.getElem?_cons_zero]; rfl) (by kernel_rfl) (by kernel_rfl) (by kernel_rfl) (by exact fun _ _ _ h => h) (Or.inl ⟨by rfl, ?_⟩) (by assumption) ?_; rotate_left 1; · (intro w hSw; (try dsimp only at hSw); go_simp; (try with_reducible rfl))) | (refine wpAnyH_take (i := 15) (v := undef) (by simp only [List.getElem?_toArray, List.getElem?_cons_succ, List.getElem?_cons_zero]; rfl) (by kernel_rfl) (by kernel_rfl) (by kernel_rfl) (by exact fun _ _ _ h => h) (Or.inr ⟨by rfl, rfl⟩) (by assumption) ?_)); (try simp only [Act.put, List.setIfInBounds_toArray, List.set_cons_zero, List.set_cons_succ]))
    ((first | (refine wpAnyH_take (i := 16) (v := ?_) (by simp only [List.getElem?_toArray, List.getElem?_cons_succ, List.getElem?_cons_zero]; rfl) (by kernel_rfl) (by kernel_rfl) (by kernel_rfl) (by exact fun _ _ _ h => h) (Or.inl ⟨by rfl, ?_⟩) (by assumption) ?_; rotate_left 1; · (intro w hSw; (try dsimp only at hSw); go_simp; (try with_reducible rfl))) | (refine wpAnyH_take (i := 16) (v := undef) (by simp only [List.getElem?_toArray, List.getElem?_cons_succ, List.getElem?_cons_zero]; rfl) (by kernel_rfl) (by kernel_rfl) (by kernel_rfl) (by exact fun _ _ _ h => h) (Or.inr ⟨by rfl, rfl⟩) (by assumption) ?_)); (try simp only [Act.put, List.setIfInBounds_toArray, List.set_cons_zero, List.set_cons_succ]))
    (refine wpAnyH_done (by kernel_rfl) ?_ _)
    clear s2 s3 s4
    clear i7 i15 i29
    have E_P0 := Lib.hid hP0; have E_P1 := Lib.hid hP1; have E_P2 := Lib.hid hP2
    clear hP0 hP1 hP2
    have E_P9 := Lib.hid hP9
    clear hP9 j30
    have t2 : ¬ (9223372036854775807 < BB.size + DG.size) := by omega
    go_wp2_with fail
    have HPO := Lib.hid (rbuild_three AA (BB ++ DG) NM HBL.out (Zn.rbld_1 HGD.out HFM.out E_KW.out E_SW.out E_NM.out E_NU.out E_RS.out E_DB.out E_DE.out E_NW.out E_OW.out E_SE.out E_AA.out E_BB.out (by rw [E_P9.out, E_P0.out, E_P1.out, E_P2.out]; exact E_DG.out)))
    go_ret2
    exact BldPost.yes HVE.out HPO.out.1 HPO.out.2
set_option maxRecDepth 100000 in
set_option maxHeartbeats 16000000 in
theorem rbuild_2 (z : Zn.Z) (w : World) (hf : z.fmt = 2) (hv : Zn.vldE z = 0) (hab : z.sur.size + z.giv.size ≤ 140737488355000) (hvl : ∀ W, Calls Tryz.prog 24 #[.agg #[.int .i64 2, .string z.kind, .string z.state, .string z.sur, .string z.giv, .string z.num, .string z.nat, .string z.birth, .string z.sex, .string z.exp, .string z.opt, .string z.sec]] W fun e w' => e = .returned (.int .i64 0) ∧ Below W.heap.size W w') :
    Calls Tryz.prog 20 #[.agg #[.int .i64 2, .string z.kind, .string z.state, .string z.sur, .string z.giv, .string z.num, .string z.nat, .string z.birth, .string z.sex, .string z.exp, .string z.opt, .string z.sec]] w (BldPost z w) := by
  have HGD := Lib.hid (Zn.good_of hv)
  have HKW := Lib.hid (fun W => rwideS z.kind 2 W (by omega))
  obtain ⟨KW, hKW⟩ : ∃ q : ByteArray, Zn.wS z.kind 2 = q := ⟨_, rfl⟩
  rw [hKW] at HKW
  have E_KW := Lib.hid hKW
  have zKW : 2 ≤ KW.size ∧ KW.size ≤ 2 := eq2 (by rw [← hKW]; exact Zn.wS_size (by have := Zn.letters_le HGD.out.kind; omega))
  have HSW := Lib.hid (fun W => rwideS z.state 3 W (by omega))
  obtain ⟨SW, hSW⟩ : ∃ q : ByteArray, Zn.wS z.state 3 = q := ⟨_, rfl⟩
  rw [hSW] at HSW
  have E_SW := Lib.hid hSW
  have zSW : 3 ≤ SW.size ∧ SW.size ≤ 3 := eq2 (by rw [← hSW]; exact Zn.wS_size (by have := Zn.letters_le HGD.out.state; omega))
  have HNU := Lib.hid (fun W => rnumber z.num W (by have := HGD.out.numLe20; omega))
  obtain ⟨NU, hNU⟩ : ∃ q : ByteArray, Zn.nuA z.num = q := ⟨_, rfl⟩
  rw [hNU] at HNU
  have E_NU := Lib.hid hNU
  obtain ⟨RS, hRS⟩ : ∃ q : ByteArray, Zn.nuB z.num = q := ⟨_, rfl⟩
  rw [hRS] at HNU
  have E_RS := Lib.hid hRS
  have zNU : 10 ≤ NU.size ∧ NU.size ≤ 10 := eq2 (by rw [← hNU]; exact HGD.out.nuA_size)
  have ZRS := Lib.hid (show RS.size + z.opt.size = if 9 < z.num.size then z.num.size - 7 + z.opt.size else z.opt.size by rw [← hRS]; exact HGD.out.nuB_size)
  have HDB := Lib.hid (fun W => rchecked z.birth W (by have := Zn.birth_size HGD.out.birth; omega))
  obtain ⟨DB, hDB⟩ : ∃ q : ByteArray, Zn.ckS z.birth = q := ⟨_, rfl⟩
  rw [hDB] at HDB
  have E_DB := Lib.hid hDB
  have zDB : 7 ≤ DB.size ∧ DB.size ≤ 7 := eq2 (by rw [← hDB]; exact HGD.out.db_size)
  have HDE := Lib.hid (fun W => rchecked z.exp W (by have := Zn.prE_size HGD.out.exp; omega))
  obtain ⟨DE, hDE⟩ : ∃ q : ByteArray, Zn.ckS z.exp = q := ⟨_, rfl⟩
  rw [hDE] at HDE
  have E_DE := Lib.hid hDE
  have zDE : 7 ≤ DE.size ∧ DE.size ≤ 7 := eq2 (by rw [← hDE]; exact HGD.out.de_size)
  have HNW := Lib.hid (fun W => rwideS z.nat 3 W (by omega))
  obtain ⟨NW, hNW⟩ : ∃ q : ByteArray, Zn.wS z.nat 3 = q := ⟨_, rfl⟩
  rw [hNW] at HNW
  have E_NW := Lib.hid hNW
  have zNW : 3 ≤ NW.size ∧ NW.size ≤ 3 := eq2 (by rw [← hNW]; exact Zn.wS_size (by have := Zn.letters_le HGD.out.nat; omega))
  have HNA := Lib.hid (fun W => rnames_any z.sur z.giv 31 W hab)
  obtain ⟨nmx, hnmx⟩ : ∃ q, Opt.nmE z.sur.data.toList z.giv.data.toList 31 = q := ⟨_, rfl⟩
  rw [hnmx] at HNA
  clear hnmx
  obtain ⟨NM, hNM⟩ : ∃ q : ByteArray, (⟨(Opt.nmV z.sur.data.toList z.giv.data.toList 31).toArray⟩ : ByteArray) = q := ⟨_, rfl⟩
  rw [hNM] at HNA
  have E_NM := Lib.hid hNM
  have zNM : NM.size ≤ 31 := by rw [← hNM, arr_size]; exact nmV_len _ _ _
  have zsx : z.sex.size ≤ 1 ∧ 1 ≤ z.sex.size := (by have := Zn.sex_le HGD.out.sex; omega)
  have zop := HGD.out.optLe
  have zse : z.sec.size ≤ 11 := by have := HGD.out.secLe; omega
  clear hKW hSW hNU hRS hDB hDE hNW hNM
  have HVL := Lib.hid hvl
  have HVE := Lib.hid hv
  have HFM := Lib.hid hf
  have hb1 := below_alloc1 w (.cells #[.int .i64 2, .string z.kind, .string z.state, .string z.sur, .string z.giv, .string z.num, .string z.nat, .string z.birth, .string z.sex, .string z.exp, .string z.opt, .string z.sec] 24)
  have hbx := zbox_new_at w z 2 hf
  clear hf hv hab hvl
  have hix : ∀ w, (Instr.index 37 (.agg #[.int .i64 0, .int .i64 30, .int .i64 31, .int .i64 39]) (.int .i64 2)).run Tryz.prog w = .ok (.int .i64 31) w := fun _ => by kernel_rfl
  go_enter Tryz.func20, Tryz.ntmps20
  go_upto_region 1 with fail
  generalize w.alloc (.cells #[.int .i64 2, .string z.kind, .string z.state, .string z.sur, .string z.giv, .string z.num, .string z.nat, .string z.birth, .string z.sex, .string z.exp, .string z.opt, .string z.sec] 24) = w1 at hb1 hbx ⊢
  have HB1 := Lib.hid hb1; have HX := Lib.hid hbx
  clear hb1 hbx
  obtain ⟨g1, hg1⟩ : ∃ q, w.heap.size = q := ⟨_, rfl⟩
  rw [hg1] at HX ⊢
  have HG1 := Lib.hid hg1
  clear hg1
  obtain ⟨x0, x1, x2, x3, x4, x5, x6, x7, x8, x9, x10, x11⟩ := HX.out
  go_wp2_with fail
  refine (HVL.out _).mono ?_; rintro e w2 ⟨rfl, hb2⟩
  have HBL := Lib.hid (HB1.out.trans (hb2.mono HB1.out.size))
  have hHeld := zcells_later hb2 HX.out
  clear hb2 HB1 HX x0 x1 x2 x3 x4 x5 x6 x7 x8 x9 x10 x11
  have s1 : ¬ (9223372036854775807 < KW.size + SW.size) := by omega
  go_wp2_with fail
  (refine wp_region_held_drew (S := (fun W => W.cell? ⟨g1, 0, none⟩ = some (.int .i64 2) ∧ W.cell? ⟨g1, 1, none⟩ = some (.string z.kind) ∧ W.cell? ⟨g1, 2, none⟩ = some (.string z.state) ∧ W.cell? ⟨g1, 3, none⟩ = some (.string z.sur) ∧ W.cell? ⟨g1, 4, none⟩ = some (.string z.giv) ∧ W.cell? ⟨g1, 5, none⟩ = some (.string z.num) ∧ W.cell? ⟨g1, 6, none⟩ = some (.string z.nat) ∧ W.cell? ⟨g1, 7, none⟩ = some (.string z.birth) ∧ W.cell? ⟨g1, 8, none⟩ = some (.string z.sex) ∧ W.cell? ⟨g1, 9, none⟩ = some (.string z.exp) ∧ W.cell? ⟨g1, 10, none⟩ = some (.string z.opt) ∧ W.cell? ⟨g1, 11, none⟩ = some (.string z.sec))) (by kernel_rfl) (hHeld) (fun hHeld => ?_))
  ((first | (refine wpAnyH_take (i := 0) (v := ?_) (by simp only [List.getElem?_toArray, List.getElem?_cons_zero]; rfl) (by kernel_rfl) (by kernel_rfl) (by kernel_rfl) (by exact fun _ _ _ h => h) (Or.inl ⟨by rfl, ?_⟩) (by assumption) ?_; rotate_left 1; · (intro w hSw; (try dsimp only at hSw); go_simp; (try with_reducible rfl))) | (refine wpAnyH_take (i := 0) (v := undef) (by simp only [List.getElem?_toArray, List.getElem?_cons_zero]; rfl) (by kernel_rfl) (by kernel_rfl) (by kernel_rfl) (by exact fun _ _ _ h => h) (Or.inr ⟨by rfl, rfl⟩) (by assumption) ?_)); (try simp only [Act.put, List.setIfInBounds_toArray, List.set_cons_zero, List.set_cons_succ]))
  ((first | (refine wpAnyH_take (i := 1) (v := ?_) (by simp only [List.getElem?_toArray, List.getElem?_cons_succ, List.getElem?_cons_zero]; rfl) (by kernel_rfl) (by kernel_rfl) (by kernel_rfl) (by exact fun _ _ _ h => h) (Or.inl ⟨by rfl, ?_⟩) (by assumption) ?_; rotate_left 1; · (intro w hSw; (try dsimp only at hSw); go_simp; (try with_reducible rfl))) | (refine wpAnyH_take (i := 1) (v := undef) (by simp only [List.getElem?_toArray, List.getElem?_cons_succ, List.getElem?_cons_zero]; rfl) (by kernel_rfl) (by kernel_rfl) (by kernel_rfl) (by exact fun _ _ _ h => h) (Or.inr ⟨by rfl, rfl⟩) (by assumption) ?_)); (try simp only [Act.put, List.setIfInBounds_toArray, List.set_cons_zero, List.set_cons_succ]))
  ((first | (refine wpAnyH_take (i := 3) (v := ?_) (by simp only [List.getElem?_toArray, List.getElem?_cons_succ, List.getElem?_cons_zero]; rfl) (by kernel_rfl) (by kernel_rfl) (by kernel_rfl) (by exact fun _ _ _ h => h) (Or.inl ⟨by rfl, ?_⟩) (by assumption) ?_; rotate_left 1; · (intro w hSw; (try dsimp only at hSw); go_simp; (try with_reducible rfl))) | (refine wpAnyH_take (i := 3) (v := undef) (by simp only [List.getElem?_toArray, List.getElem?_cons_succ, List.getElem?_cons_zero]; rfl) (by kernel_rfl) (by kernel_rfl) (by kernel_rfl) (by exact fun _ _ _ h => h) (Or.inr ⟨by rfl, rfl⟩) (by assumption) ?_)); (try simp only [Act.put, List.setIfInBounds_toArray, List.set_cons_zero, List.set_cons_succ]))
  ((first | (refine wpAnyH_take (i := 4) (v := ?_) (by simp only [List.getElem?_toArray, List.getElem?_cons_succ, List.getElem?_cons_zero]; rfl) (by kernel_rfl) (by kernel_rfl) (by kernel_rfl) (by exact fun _ _ _ h => h) (Or.inl ⟨by rfl, ?_⟩) (by assumption) ?_; rotate_left 1; · (intro w hSw; (try dsimp only at hSw); go_simp; (try with_reducible rfl))) | (refine wpAnyH_take (i := 4) (v := undef) (by simp only [List.getElem?_toArray, List.getElem?_cons_succ, List.getElem?_cons_zero]; rfl) (by kernel_rfl) (by kernel_rfl) (by kernel_rfl) (by exact fun _ _ _ h => h) (Or.inr ⟨by rfl, rfl⟩) (by assumption) ?_)); (try simp only [Act.put, List.setIfInBounds_toArray, List.set_cons_zero, List.set_cons_succ]))
  (refine wpAnyH_ready (rs := [2]) (by kernel_rfl) (by simp) ?_; refine AllReadyH.cons (by simp only [List.getElem?_toArray, List.getElem?_cons_succ, List.getElem?_cons_zero]; rfl) (fun K hK => ?_) AllReadyH.nil; go_simp; go_at_call 51; refine (HKW.out _).mono ?_; rintro e w5 ⟨rfl, hb4⟩; (first | have HBN := Lib.hid (HBL.out.trans ((below_undrew2 hb4).mono HBL.out.size)) | have HBN := Lib.hid (HBL.out.trans (hb4.mono HBL.out.size))); replace HBL := HBN; clear HBN; refine hK.out _ _ (⟨cell_later hb4 hHeld.1, cell_later hb4 hHeld.2.1, cell_later hb4 hHeld.2.2.1, cell_later hb4 hHeld.2.2.2.1, cell_later hb4 hHeld.2.2.2.2.1, cell_later hb4 hHeld.2.2.2.2.2.1, cell_later hb4 hHeld.2.2.2.2.2.2.1, cell_later hb4 hHeld.2.2.2.2.2.2.2.1, cell_later hb4 hHeld.2.2.2.2.2.2.2.2.1, cell_later hb4 hHeld.2.2.2.2.2.2.2.2.2.1, cell_later hb4 hHeld.2.2.2.2.2.2.2.2.2.2.1, cell_later hb4 hHeld.2.2.2.2.2.2.2.2.2.2.2⟩) (fun hHeld => ?_); clear hK K; (try simp only [Act.put, List.setIfInBounds_toArray, List.set_cons_zero, List.set_cons_succ]))
  (refine wpAnyH_ready (rs := [5]) (by kernel_rfl) (by simp) ?_; refine AllReadyH.cons (by simp only [List.getElem?_toArray, List.getElem?_cons_succ, List.getElem?_cons_zero]; rfl) (fun K hK => ?_) AllReadyH.nil; go_simp; go_at_call 51; refine (HSW.out _).mono ?_; rintro e w5 ⟨rfl, hb4⟩; (first | have HBN := Lib.hid (HBL.out.trans ((below_undrew2 hb4).mono HBL.out.size)) | have HBN := Lib.hid (HBL.out.trans (hb4.mono HBL.out.size))); replace HBL := HBN; clear HBN; refine hK.out _ _ (⟨cell_later hb4 hHeld.1, cell_later hb4 hHeld.2.1, cell_later hb4 hHeld.2.2.1, cell_later hb4 hHeld.2.2.2.1, cell_later hb4 hHeld.2.2.2.2.1, cell_later hb4 hHeld.2.2.2.2.2.1, cell_later hb4 hHeld.2.2.2.2.2.2.1, cell_later hb4 hHeld.2.2.2.2.2.2.2.1, cell_later hb4 hHeld.2.2.2.2.2.2.2.2.1, cell_later hb4 hHeld.2.2.2.2.2.2.2.2.2.1, cell_later hb4 hHeld.2.2.2.2.2.2.2.2.2.2.1, cell_later hb4 hHeld.2.2.2.2.2.2.2.2.2.2.2⟩) (fun hHeld => ?_); clear hK K; (try simp only [Act.put, List.setIfInBounds_toArray, List.set_cons_zero, List.set_cons_succ]))
  ((first | (refine wpAnyH_take (i := 6) (v := ?_) (by simp only [List.getElem?_toArray, List.getElem?_cons_succ, List.getElem?_cons_zero]; rfl) (by kernel_rfl) (by kernel_rfl) (by kernel_rfl) (by exact fun _ _ _ h => h) (Or.inl ⟨by rfl, ?_⟩) (by assumption) ?_; rotate_left 1; · (intro w hSw; (try dsimp only at hSw); go_simp; (try with_reducible rfl))) | (refine wpAnyH_take (i := 6) (v := undef) (by simp only [List.getElem?_toArray, List.getElem?_cons_succ, List.getElem?_cons_zero]; rfl) (by kernel_rfl) (by kernel_rfl) (by kernel_rfl) (by exact fun _ _ _ h => h) (Or.inr ⟨by rfl, rfl⟩) (by assumption) ?_)); (try simp only [Act.put, List.setIfInBounds_toArray, List.set_cons_zero, List.set_cons_succ]))
  ((first | (refine wpAnyH_take (i := 7) (v := ?_) (by simp only [List.getElem?_toArray, List.getElem?_cons_succ, List.getElem?_cons_zero]; rfl) (by kernel_rfl) (by kernel_rfl) (by kernel_rfl) (by exact fun _ _ _ h => h) (Or.inl ⟨by rfl, ?_⟩) (by assumption) ?_; rotate_left 1; · (intro w hSw; (try dsimp only at hSw); go_simp; (try with_reducible rfl))) | (refine wpAnyH_take (i := 7) (v := undef) (by simp only [List.getElem?_toArray, List.getElem?_cons_succ, List.getElem?_cons_zero]; rfl) (by kernel_rfl) (by kernel_rfl) (by kernel_rfl) (by exact fun _ _ _ h => h) (Or.inr ⟨by rfl, rfl⟩) (by assumption) ?_)); (try simp only [Act.put, List.setIfInBounds_toArray, List.set_cons_zero, List.set_cons_succ]))
  (refine wpAnyH_done (by kernel_rfl) ?_ _)
  have hHeld' := hHeld
  obtain ⟨x0, x1, x2, x3, x4, x5, x6, x7, x8, x9, x10, x11⟩ := hHeld'
  go_wp2_with fail
  refine (HNU.out _).mono ?_; rintro e w5 ⟨rfl, hb4⟩; have HBN := Lib.hid (HBL.out.trans (hb4.mono HBL.out.size)); replace HBL := HBN; clear HBN
  replace hHeld := zcells_later hb4 hHeld
  clear hb4 x0 x1 x2 x3 x4 x5 x6 x7 x8 x9 x10 x11
  go_upto_region 6 with fail
  go_cut [8] from 42 to 48 (fun q W => ∃ g2, q = .pointer (some ⟨g2, 0, none⟩) ∧ ZCells z 2 g1 W ∧ W.cell? ⟨g2, 0, none⟩ = some (.string DB) ∧ W.cell? ⟨g2, 1, none⟩ = some (.string DE) ∧ Below w.heap.size w W)
  case first =>
    (refine wp_region_held_drew (S := (fun W => W.cell? ⟨g1, 0, none⟩ = some (.int .i64 2) ∧ W.cell? ⟨g1, 1, none⟩ = some (.string z.kind) ∧ W.cell? ⟨g1, 2, none⟩ = some (.string z.state) ∧ W.cell? ⟨g1, 3, none⟩ = some (.string z.sur) ∧ W.cell? ⟨g1, 4, none⟩ = some (.string z.giv) ∧ W.cell? ⟨g1, 5, none⟩ = some (.string z.num) ∧ W.cell? ⟨g1, 6, none⟩ = some (.string z.nat) ∧ W.cell? ⟨g1, 7, none⟩ = some (.string z.birth) ∧ W.cell? ⟨g1, 8, none⟩ = some (.string z.sex) ∧ W.cell? ⟨g1, 9, none⟩ = some (.string z.exp) ∧ W.cell? ⟨g1, 10, none⟩ = some (.string z.opt) ∧ W.cell? ⟨g1, 11, none⟩ = some (.string z.sec))) (by kernel_rfl) (hHeld) (fun hHeld => ?_))
    ((first | (refine wpAnyH_take (i := 0) (v := ?_) (by simp only [List.getElem?_toArray, List.getElem?_cons_zero]; rfl) (by kernel_rfl) (by kernel_rfl) (by kernel_rfl) (by exact fun _ _ _ h => h) (Or.inl ⟨by rfl, ?_⟩) (by assumption) ?_; rotate_left 1; · (intro w hSw; (try dsimp only at hSw); go_simp; (try with_reducible rfl))) | (refine wpAnyH_take (i := 0) (v := undef) (by simp only [List.getElem?_toArray, List.getElem?_cons_zero]; rfl) (by kernel_rfl) (by kernel_rfl) (by kernel_rfl) (by exact fun _ _ _ h => h) (Or.inr ⟨by rfl, rfl⟩) (by assumption) ?_)); (try simp only [Act.put, List.setIfInBounds_toArray, List.set_cons_zero, List.set_cons_succ]))
    ((first | (refine wpAnyH_take (i := 1) (v := ?_) (by simp only [List.getElem?_toArray, List.getElem?_cons_succ, List.getElem?_cons_zero]; rfl) (by kernel_rfl) (by kernel_rfl) (by kernel_rfl) (by exact fun _ _ _ h => h) (Or.inl ⟨by rfl, ?_⟩) (by assumption) ?_; rotate_left 1; · (intro w hSw; (try dsimp only at hSw); go_simp; (try with_reducible rfl))) | (refine wpAnyH_take (i := 1) (v := undef) (by simp only [List.getElem?_toArray, List.getElem?_cons_succ, List.getElem?_cons_zero]; rfl) (by kernel_rfl) (by kernel_rfl) (by kernel_rfl) (by exact fun _ _ _ h => h) (Or.inr ⟨by rfl, rfl⟩) (by assumption) ?_)); (try simp only [Act.put, List.setIfInBounds_toArray, List.set_cons_zero, List.set_cons_succ]))
    ((first | (refine wpAnyH_take (i := 3) (v := ?_) (by simp only [List.getElem?_toArray, List.getElem?_cons_succ, List.getElem?_cons_zero]; rfl) (by kernel_rfl) (by kernel_rfl) (by kernel_rfl) (by exact fun _ _ _ h => h) (Or.inl ⟨by rfl, ?_⟩) (by assumption) ?_; rotate_left 1; · (intro w hSw; (try dsimp only at hSw); go_simp; (try with_reducible rfl))) | (refine wpAnyH_take (i := 3) (v := undef) (by simp only [List.getElem?_toArray, List.getElem?_cons_succ, List.getElem?_cons_zero]; rfl) (by kernel_rfl) (by kernel_rfl) (by kernel_rfl) (by exact fun _ _ _ h => h) (Or.inr ⟨by rfl, rfl⟩) (by assumption) ?_)); (try simp only [Act.put, List.setIfInBounds_toArray, List.set_cons_zero, List.set_cons_succ]))
    ((first | (refine wpAnyH_take (i := 4) (v := ?_) (by simp only [List.getElem?_toArray, List.getElem?_cons_succ, List.getElem?_cons_zero]; rfl) (by kernel_rfl) (by kernel_rfl) (by kernel_rfl) (by exact fun _ _ _ h => h) (Or.inl ⟨by rfl, ?_⟩) (by assumption) ?_; rotate_left 1; · (intro w hSw; (try dsimp only at hSw); go_simp; (try with_reducible rfl))) | (refine wpAnyH_take (i := 4) (v := undef) (by simp only [List.getElem?_toArray, List.getElem?_cons_succ, List.getElem?_cons_zero]; rfl) (by kernel_rfl) (by kernel_rfl) (by kernel_rfl) (by exact fun _ _ _ h => h) (Or.inr ⟨by rfl, rfl⟩) (by assumption) ?_)); (try simp only [Act.put, List.setIfInBounds_toArray, List.set_cons_zero, List.set_cons_succ]))
    refine wpAnyH_ready (rs := [2, 7]) (by kernel_rfl) (by simp) ?_
    refine AllReadyH.cons (by simp only [List.getElem?_toArray, List.getElem?_cons_succ, List.getElem?_cons_zero]; rfl) (fun K hK => ?_) ?_
    · (go_simp; go_at_call 53; refine (HDB.out _).mono ?_; rintro e w5 ⟨rfl, hb4⟩; (first | have HBN := Lib.hid (HBL.out.trans ((below_undrew2 hb4).mono HBL.out.size)) | have HBN := Lib.hid (HBL.out.trans (hb4.mono HBL.out.size))); replace HBL := HBN; clear HBN)
      (refine hK.out _ _ (⟨cell_later hb4 hHeld.1, cell_later hb4 hHeld.2.1, cell_later hb4 hHeld.2.2.1, cell_later hb4 hHeld.2.2.2.1, cell_later hb4 hHeld.2.2.2.2.1, cell_later hb4 hHeld.2.2.2.2.2.1, cell_later hb4 hHeld.2.2.2.2.2.2.1, cell_later hb4 hHeld.2.2.2.2.2.2.2.1, cell_later hb4 hHeld.2.2.2.2.2.2.2.2.1, cell_later hb4 hHeld.2.2.2.2.2.2.2.2.2.1, cell_later hb4 hHeld.2.2.2.2.2.2.2.2.2.2.1, cell_later hb4 hHeld.2.2.2.2.2.2.2.2.2.2.2⟩) (fun hHeld => ?_); clear hK K; (try simp only [Act.put, List.setIfInBounds_toArray, List.set_cons_zero, List.set_cons_succ]))
      refine wpAnyH_ready (rs := [5, 7]) (by kernel_rfl) (by simp) ?_
      refine AllReadyH.cons (by simp only [List.getElem?_toArray, List.getElem?_cons_succ, List.getElem?_cons_zero]; rfl) (fun K hK => ?_) ?_
      · (go_simp; go_at_call 53; refine (HDE.out _).mono ?_; rintro e w5 ⟨rfl, hb4⟩; (first | have HBN := Lib.hid (HBL.out.trans ((below_undrew2 hb4).mono HBL.out.size)) | have HBN := Lib.hid (HBL.out.trans (hb4.mono HBL.out.size))); replace HBL := HBN; clear HBN)
        (refine hK.out _ _ (⟨cell_later hb4 hHeld.1, cell_later hb4 hHeld.2.1, cell_later hb4 hHeld.2.2.1, cell_later hb4 hHeld.2.2.2.1, cell_later hb4 hHeld.2.2.2.2.1, cell_later hb4 hHeld.2.2.2.2.2.1, cell_later hb4 hHeld.2.2.2.2.2.2.1, cell_later hb4 hHeld.2.2.2.2.2.2.2.1, cell_later hb4 hHeld.2.2.2.2.2.2.2.2.1, cell_later hb4 hHeld.2.2.2.2.2.2.2.2.2.1, cell_later hb4 hHeld.2.2.2.2.2.2.2.2.2.2.1, cell_later hb4 hHeld.2.2.2.2.2.2.2.2.2.2.2⟩) (fun hHeld => ?_); clear hK K; (try simp only [Act.put, List.setIfInBounds_toArray, List.set_cons_zero, List.set_cons_succ]))
        ((first | (refine wpAnyH_take (i := 6) (v := ?_) (by simp only [List.getElem?_toArray, List.getElem?_cons_succ, List.getElem?_cons_zero]; rfl) (by kernel_rfl) (by kernel_rfl) (by kernel_rfl) (by exact fun _ _ _ h => h) (Or.inl ⟨by rfl, ?_⟩) (by assumption) ?_; rotate_left 1; · (intro w hSw; (try dsimp only at hSw); go_simp; (try with_reducible rfl))) | (refine wpAnyH_take (i := 6) (v := undef) (by simp only [List.getElem?_toArray, List.getElem?_cons_succ, List.getElem?_cons_zero]; rfl) (by kernel_rfl) (by kernel_rfl) (by kernel_rfl) (by exact fun _ _ _ h => h) (Or.inr ⟨by rfl, rfl⟩) (by assumption) ?_)); (try simp only [Act.put, List.setIfInBounds_toArray, List.set_cons_zero, List.set_cons_succ]))
        refine wpAnyH_ready (rs := [7]) (by kernel_rfl) (by simp) ?_
        refine AllReadyH.cons (by simp only [List.getElem?_toArray, List.getElem?_cons_succ, List.getElem?_cons_zero]; rfl) (fun K hK => ?_) ?_
        · (go_simp; have hba := below_alloc1 w5 (.cells #[.string ⟨#[]⟩, .string ⟨#[]⟩] 82); have hnew := heap_alloc_new w5 (.cells #[.string ⟨#[]⟩, .string ⟨#[]⟩] 82); have hsz5 := size_alloc1 w5 (.cells #[.string ⟨#[]⟩, .string ⟨#[]⟩] 82); have HOL := HBL; have HBN := Lib.hid (HBL.out.trans (hba.mono HBL.out.size)); replace HBL := HBN; clear HBN; generalize w5.alloc (.cells #[.string ⟨#[]⟩, .string ⟨#[]⟩] 82) = w6 at hba hnew hsz5 HBL ⊢; obtain ⟨g2, hg2⟩ : ∃ q, w5.heap.size = q := ⟨_, rfl⟩; have hgl : g1 < g2 := hg2 ▸ zcells_lt hHeld; have hgw : w.heap.size ≤ g2 := hg2 ▸ HOL.out.size; have hg6 : g2 < w6.heap.size := (by omega); rw [hg2] at hnew ⊢)
          (refine hK.out _ _ ((show ZCells z 2 g1 w6 from zcells_later (w := w5) (w' := w6) hba hHeld)) (fun hHeld => ?_); clear hK K; (try simp only [Act.put, List.setIfInBounds_toArray, List.set_cons_zero, List.set_cons_succ]))
          have hrow := hnew
          have y0 := cell_of_row w6 g2 0 _ _ _ hrow; have y1 := cell_of_row w6 g2 1 _ _ _ hrow; have f0 := frozen_of_row w6 g2 0 _ _ hrow; have f1 := frozen_of_row w6 g2 1 _ _ hrow
          have hZ : ZCells z 2 g1 w6 := hHeld
          have HPO := Lib.hid (days_done DB DE hZ hgl hgw hrow HBL.out)
          simp only [List.getElem?_toArray, List.getElem?_cons_zero, List.getElem?_cons_succ] at y0 y1
          refine wpAnyH_ready (rs := [8]) (by kernel_rfl) (by simp) ?_
          refine AllReadyH.cons (by simp only [List.getElem?_toArray, List.getElem?_cons_succ, List.getElem?_cons_zero]; rfl) (fun K hK => ?_) AllReadyH.nil
          go_simp
          refine hK.out _ _ HPO.out.1 (fun hHeld => ?_)
          clear hK K
          (try simp only [Act.put, List.setIfInBounds_toArray, List.set_cons_zero, List.set_cons_succ])
          (refine wpAnyH_done (by kernel_rfl) ?_ _)
          go_wp2_with fail
          go_meet
          exact ⟨g2, rfl, HPO.out⟩
        exact AllReadyH.nil
      refine AllReadyH.cons (by simp only [List.getElem?_toArray, List.getElem?_cons_succ, List.getElem?_cons_zero]; rfl) (fun K hK => ?_) ?_
      · (go_simp; have hba := below_alloc1 w5 (.cells #[.string ⟨#[]⟩, .string ⟨#[]⟩] 82); have hnew := heap_alloc_new w5 (.cells #[.string ⟨#[]⟩, .string ⟨#[]⟩] 82); have hsz5 := size_alloc1 w5 (.cells #[.string ⟨#[]⟩, .string ⟨#[]⟩] 82); have HOL := HBL; have HBN := Lib.hid (HBL.out.trans (hba.mono HBL.out.size)); replace HBL := HBN; clear HBN; generalize w5.alloc (.cells #[.string ⟨#[]⟩, .string ⟨#[]⟩] 82) = w6 at hba hnew hsz5 HBL ⊢; obtain ⟨g2, hg2⟩ : ∃ q, w5.heap.size = q := ⟨_, rfl⟩; have hgl : g1 < g2 := hg2 ▸ zcells_lt hHeld; have hgw : w.heap.size ≤ g2 := hg2 ▸ HOL.out.size; have hg6 : g2 < w6.heap.size := (by omega); rw [hg2] at hnew ⊢)
        (refine hK.out _ _ ((show ZCells z 2 g1 w6 from zcells_later (w := w5) (w' := w6) hba hHeld)) (fun hHeld => ?_); clear hK K; (try simp only [Act.put, List.setIfInBounds_toArray, List.set_cons_zero, List.set_cons_succ]))
        refine wpAnyH_ready (rs := [5]) (by kernel_rfl) (by simp) ?_
        refine AllReadyH.cons (by simp only [List.getElem?_toArray, List.getElem?_cons_succ, List.getElem?_cons_zero]; rfl) (fun K hK => ?_) ?_
        · (go_simp; go_at_call 53; refine (HDE.out _).mono ?_; rintro e w5 ⟨rfl, hb4⟩; (first | have HBN := Lib.hid (HBL.out.trans ((below_undrew2 hb4).mono HBL.out.size)) | have HBN := Lib.hid (HBL.out.trans (hb4.mono HBL.out.size))); replace HBL := HBN; clear HBN)
          (refine hK.out _ _ (⟨cell_later hb4 hHeld.1, cell_later hb4 hHeld.2.1, cell_later hb4 hHeld.2.2.1, cell_later hb4 hHeld.2.2.2.1, cell_later hb4 hHeld.2.2.2.2.1, cell_later hb4 hHeld.2.2.2.2.2.1, cell_later hb4 hHeld.2.2.2.2.2.2.1, cell_later hb4 hHeld.2.2.2.2.2.2.2.1, cell_later hb4 hHeld.2.2.2.2.2.2.2.2.1, cell_later hb4 hHeld.2.2.2.2.2.2.2.2.2.1, cell_later hb4 hHeld.2.2.2.2.2.2.2.2.2.2.1, cell_later hb4 hHeld.2.2.2.2.2.2.2.2.2.2.2⟩) (fun hHeld => ?_); clear hK K; (try simp only [Act.put, List.setIfInBounds_toArray, List.set_cons_zero, List.set_cons_succ]))
          ((first | (refine wpAnyH_take (i := 6) (v := ?_) (by simp only [List.getElem?_toArray, List.getElem?_cons_succ, List.getElem?_cons_zero]; rfl) (by kernel_rfl) (by kernel_rfl) (by kernel_rfl) (by exact fun _ _ _ h => h) (Or.inl ⟨by rfl, ?_⟩) (by assumption) ?_; rotate_left 1; · (intro w hSw; (try dsimp only at hSw); go_simp; (try with_reducible rfl))) | (refine wpAnyH_take (i := 6) (v := undef) (by simp only [List.getElem?_toArray, List.getElem?_cons_succ, List.getElem?_cons_zero]; rfl) (by kernel_rfl) (by kernel_rfl) (by kernel_rfl) (by exact fun _ _ _ h => h) (Or.inr ⟨by rfl, rfl⟩) (by assumption) ?_)); (try simp only [Act.put, List.setIfInBounds_toArray, List.set_cons_zero, List.set_cons_succ]))
          have hrow := row_later2 hb4 hg6 hnew
          have y0 := cell_of_row w5 g2 0 _ _ _ hrow; have y1 := cell_of_row w5 g2 1 _ _ _ hrow; have f0 := frozen_of_row w5 g2 0 _ _ hrow; have f1 := frozen_of_row w5 g2 1 _ _ hrow
          have hZ : ZCells z 2 g1 w5 := hHeld
          have HPO := Lib.hid (days_done DB DE hZ hgl hgw hrow HBL.out)
          simp only [List.getElem?_toArray, List.getElem?_cons_zero, List.getElem?_cons_succ] at y0 y1
          refine wpAnyH_ready (rs := [8]) (by kernel_rfl) (by simp) ?_
          refine AllReadyH.cons (by simp only [List.getElem?_toArray, List.getElem?_cons_succ, List.getElem?_cons_zero]; rfl) (fun K hK => ?_) AllReadyH.nil
          go_simp
          refine hK.out _ _ HPO.out.1 (fun hHeld => ?_)
          clear hK K
          (try simp only [Act.put, List.setIfInBounds_toArray, List.set_cons_zero, List.set_cons_succ])
          (refine wpAnyH_done (by kernel_rfl) ?_ _)
          go_wp2_with fail
          go_meet
          exact ⟨g2, rfl, HPO.out⟩
        exact AllReadyH.nil
      exact AllReadyH.nil
    refine AllReadyH.cons (by simp only [List.getElem?_toArray, List.getElem?_cons_succ, List.getElem?_cons_zero]; rfl) (fun K hK => ?_) ?_
    · (go_simp; have hba := below_alloc1 w5 (.cells #[.string ⟨#[]⟩, .string ⟨#[]⟩] 82); have hnew := heap_alloc_new w5 (.cells #[.string ⟨#[]⟩, .string ⟨#[]⟩] 82); have hsz5 := size_alloc1 w5 (.cells #[.string ⟨#[]⟩, .string ⟨#[]⟩] 82); have HOL := HBL; have HBN := Lib.hid (HBL.out.trans (hba.mono HBL.out.size)); replace HBL := HBN; clear HBN; generalize w5.alloc (.cells #[.string ⟨#[]⟩, .string ⟨#[]⟩] 82) = w6 at hba hnew hsz5 HBL ⊢; obtain ⟨g2, hg2⟩ : ∃ q, w5.heap.size = q := ⟨_, rfl⟩; have hgl : g1 < g2 := hg2 ▸ zcells_lt hHeld; have hgw : w.heap.size ≤ g2 := hg2 ▸ HOL.out.size; have hg6 : g2 < w6.heap.size := (by omega); rw [hg2] at hnew ⊢)
      (refine hK.out _ _ ((show ZCells z 2 g1 w6 from zcells_later (w := w5) (w' := w6) hba hHeld)) (fun hHeld => ?_); clear hK K; (try simp only [Act.put, List.setIfInBounds_toArray, List.set_cons_zero, List.set_cons_succ]))
      refine wpAnyH_ready (rs := [2]) (by kernel_rfl) (by simp) ?_
      refine AllReadyH.cons (by simp only [List.getElem?_toArray, List.getElem?_cons_succ, List.getElem?_cons_zero]; rfl) (fun K hK => ?_) ?_
      · (go_simp; go_at_call 53; refine (HDB.out _).mono ?_; rintro e w5 ⟨rfl, hb4⟩; (first | have HBN := Lib.hid (HBL.out.trans ((below_undrew2 hb4).mono HBL.out.size)) | have HBN := Lib.hid (HBL.out.trans (hb4.mono HBL.out.size))); replace HBL := HBN; clear HBN)
        (refine hK.out _ _ (⟨cell_later hb4 hHeld.1, cell_later hb4 hHeld.2.1, cell_later hb4 hHeld.2.2.1, cell_later hb4 hHeld.2.2.2.1, cell_later hb4 hHeld.2.2.2.2.1, cell_later hb4 hHeld.2.2.2.2.2.1, cell_later hb4 hHeld.2.2.2.2.2.2.1, cell_later hb4 hHeld.2.2.2.2.2.2.2.1, cell_later hb4 hHeld.2.2.2.2.2.2.2.2.1, cell_later hb4 hHeld.2.2.2.2.2.2.2.2.2.1, cell_later hb4 hHeld.2.2.2.2.2.2.2.2.2.2.1, cell_later hb4 hHeld.2.2.2.2.2.2.2.2.2.2.2⟩) (fun hHeld => ?_); clear hK K; (try simp only [Act.put, List.setIfInBounds_toArray, List.set_cons_zero, List.set_cons_succ]))
        have hg6' := Nat.lt_of_lt_of_le hg6 hb4.size; replace hnew := row_later2 hb4 hg6 hnew; replace hg6 := hg6'
        refine wpAnyH_ready (rs := [5]) (by kernel_rfl) (by simp) ?_
        refine AllReadyH.cons (by simp only [List.getElem?_toArray, List.getElem?_cons_succ, List.getElem?_cons_zero]; rfl) (fun K hK => ?_) ?_
        · (go_simp; go_at_call 53; refine (HDE.out _).mono ?_; rintro e w5 ⟨rfl, hb4⟩; (first | have HBN := Lib.hid (HBL.out.trans ((below_undrew2 hb4).mono HBL.out.size)) | have HBN := Lib.hid (HBL.out.trans (hb4.mono HBL.out.size))); replace HBL := HBN; clear HBN)
          (refine hK.out _ _ (⟨cell_later hb4 hHeld.1, cell_later hb4 hHeld.2.1, cell_later hb4 hHeld.2.2.1, cell_later hb4 hHeld.2.2.2.1, cell_later hb4 hHeld.2.2.2.2.1, cell_later hb4 hHeld.2.2.2.2.2.1, cell_later hb4 hHeld.2.2.2.2.2.2.1, cell_later hb4 hHeld.2.2.2.2.2.2.2.1, cell_later hb4 hHeld.2.2.2.2.2.2.2.2.1, cell_later hb4 hHeld.2.2.2.2.2.2.2.2.2.1, cell_later hb4 hHeld.2.2.2.2.2.2.2.2.2.2.1, cell_later hb4 hHeld.2.2.2.2.2.2.2.2.2.2.2⟩) (fun hHeld => ?_); clear hK K; (try simp only [Act.put, List.setIfInBounds_toArray, List.set_cons_zero, List.set_cons_succ]))
          ((first | (refine wpAnyH_take (i := 6) (v := ?_) (by simp only [List.getElem?_toArray, List.getElem?_cons_succ, List.getElem?_cons_zero]; rfl) (by kernel_rfl) (by kernel_rfl) (by kernel_rfl) (by exact fun _ _ _ h => h) (Or.inl ⟨by rfl, ?_⟩) (by assumption) ?_; rotate_left 1; · (intro w hSw; (try dsimp only at hSw); go_simp; (try with_reducible rfl))) | (refine wpAnyH_take (i := 6) (v := undef) (by simp only [List.getElem?_toArray, List.getElem?_cons_succ, List.getElem?_cons_zero]; rfl) (by kernel_rfl) (by kernel_rfl) (by kernel_rfl) (by exact fun _ _ _ h => h) (Or.inr ⟨by rfl, rfl⟩) (by assumption) ?_)); (try simp only [Act.put, List.setIfInBounds_toArray, List.set_cons_zero, List.set_cons_succ]))
          have hrow := row_later2 hb4 hg6 hnew
          have y0 := cell_of_row w5 g2 0 _ _ _ hrow; have y1 := cell_of_row w5 g2 1 _ _ _ hrow; have f0 := frozen_of_row w5 g2 0 _ _ hrow; have f1 := frozen_of_row w5 g2 1 _ _ hrow
          have hZ : ZCells z 2 g1 w5 := hHeld
          have HPO := Lib.hid (days_done DB DE hZ hgl hgw hrow HBL.out)
          simp only [List.getElem?_toArray, List.getElem?_cons_zero, List.getElem?_cons_succ] at y0 y1
          refine wpAnyH_ready (rs := [8]) (by kernel_rfl) (by simp) ?_
          refine AllReadyH.cons (by simp only [List.getElem?_toArray, List.getElem?_cons_succ, List.getElem?_cons_zero]; rfl) (fun K hK => ?_) AllReadyH.nil
          go_simp
          refine hK.out _ _ HPO.out.1 (fun hHeld => ?_)
          clear hK K
          (try simp only [Act.put, List.setIfInBounds_toArray, List.set_cons_zero, List.set_cons_succ])
          (refine wpAnyH_done (by kernel_rfl) ?_ _)
          go_wp2_with fail
          go_meet
          exact ⟨g2, rfl, HPO.out⟩
        exact AllReadyH.nil
      exact AllReadyH.nil
    exact AllReadyH.nil
  case rest =>
    obtain ⟨g2, rfl, hz, hd0, hd1, hbl⟩ := hcut
    have HBL := Lib.hid hbl
    have hHeld : ZDays z 2 g1 g2 DB DE wc := zdays_mk hz hd0 hd1
    clear hz hd0 hd1 hbl HDB HDE HKW HSW HNU
    have hH' := hHeld
    obtain ⟨x0, x1, x2, x3, x4, x5, x6, x7, x8, x9, x10, x11, x12, x13⟩ := hH'
    go_wp2_with fail
    refine (HNW.out _).mono ?_; rintro e w5 ⟨rfl, hb4⟩; have HBN := Lib.hid (HBL.out.trans (hb4.mono HBL.out.size)); replace HBL := HBN; clear HBN
    replace hHeld := zdays_later hb4 hHeld
    clear hb4 x0 x1 x2 x3 x4 x5 x6 x7 x8 x9 x10 x11 x12 x13
    have hH' := hHeld
    obtain ⟨x0, x1, x2, x3, x4, x5, x6, x7, x8, x9, x10, x11, x12, x13⟩ := hH'
    go_wp2_with fail
    refine (HNA.out _).mono ?_; rintro e w5 ⟨rfl, hb4⟩; have HBN := Lib.hid (HBL.out.trans (hb4.mono HBL.out.size)); replace HBL := HBN; clear HBN
    replace hHeld := zdays_later hb4 hHeld
    clear hb4 x0 x1 x2 x3 x4 x5 x6 x7 x8 x9 x10 x11 x12 x13
    clear HNW HNA
    have HOW := Lib.hid (fun W => rwideS (RS ++ z.opt) 7 W (by omega))
    obtain ⟨OW, hOW⟩ : ∃ q : ByteArray, Zn.wS (RS ++ z.opt) 7 = q := ⟨_, rfl⟩
    rw [hOW] at HOW
    have zOW : 7 ≤ OW.size ∧ OW.size ≤ 7 := eq2 (by rw [← hOW]; exact Zn.wS_size (by rw [ByteArray.size_append]; have := HGD.out.opt7 HFM.out; have := ZRS.out; omega))
    have E_OW := Lib.hid hOW
    clear hOW
    have zRS2 : RS.size ≤ 64 := by have := HGD.out.numLe20; have := ZRS.out; split at this <;> omega
    have s0 : ¬ (9223372036854775807 < RS.size + z.opt.size) := by omega
    have s2 : ¬ (9223372036854775807 < NU.size + NW.size) := by omega
    have s3 : ¬ (9223372036854775807 < NU.size + NW.size + DB.size) := by omega
    have s4 : ¬ (9223372036854775807 < NU.size + NW.size + DB.size + z.sex.size) := by omega
    have s5 : ¬ (9223372036854775807 < NU.size + NW.size + DB.size + z.sex.size + DE.size) := by omega
    have s6 : ¬ (9223372036854775807 < NU.size + NW.size + DB.size + z.sex.size + DE.size + OW.size) := by omega
    have hH' := hHeld
    obtain ⟨x0, x1, x2, x3, x4, x5, x6, x7, x8, x9, x10, x11, x12, x13⟩ := hH'
    go_upto_region 17 with fail
    clear x0 x1 x2 x3 x4 x5 x6 x7 x8 x9 x10 x11 x12 x13
    (refine wp_region_held_drew (S := (fun W => W.cell? ⟨g1, 0, none⟩ = some (.int .i64 2) ∧ W.cell? ⟨g1, 1, none⟩ = some (.string z.kind) ∧ W.cell? ⟨g1, 2, none⟩ = some (.string z.state) ∧ W.cell? ⟨g1, 3, none⟩ = some (.string z.sur) ∧ W.cell? ⟨g1, 4, none⟩ = some (.string z.giv) ∧ W.cell? ⟨g1, 5, none⟩ = some (.string z.num) ∧ W.cell? ⟨g1, 6, none⟩ = some (.string z.nat) ∧ W.cell? ⟨g1, 7, none⟩ = some (.string z.birth) ∧ W.cell? ⟨g1, 8, none⟩ = some (.string z.sex) ∧ W.cell? ⟨g1, 9, none⟩ = some (.string z.exp) ∧ W.cell? ⟨g1, 10, none⟩ = some (.string z.opt) ∧ W.cell? ⟨g1, 11, none⟩ = some (.string z.sec) ∧ W.cell? ⟨g2, 0, none⟩ = some (.string DB) ∧ W.cell? ⟨g2, 1, none⟩ = some (.string DE))) (by kernel_rfl) (hHeld) (fun hHeld => ?_))
    ((first | (refine wpAnyH_take (i := 0) (v := ?_) (by simp only [List.getElem?_toArray, List.getElem?_cons_zero]; rfl) (by kernel_rfl) (by kernel_rfl) (by kernel_rfl) (by exact fun _ _ _ h => h) (Or.inl ⟨by rfl, ?_⟩) (by assumption) ?_; rotate_left 1; · (intro w hSw; (try dsimp only at hSw); go_simp; (try with_reducible rfl))) | (refine wpAnyH_take (i := 0) (v := undef) (by simp only [List.getElem?_toArray, List.getElem?_cons_zero]; rfl) (by kernel_rfl) (by kernel_rfl) (by kernel_rfl) (by exact fun _ _ _ h => h) (Or.inr ⟨by rfl, rfl⟩) (by assumption) ?_)); (try simp only [Act.put, List.setIfInBounds_toArray, List.set_cons_zero, List.set_cons_succ]))
    ((first | (refine wpAnyH_take (i := 1) (v := ?_) (by simp only [List.getElem?_toArray, List.getElem?_cons_succ, List.getElem?_cons_zero]; rfl) (by kernel_rfl) (by kernel_rfl) (by kernel_rfl) (by exact fun _ _ _ h => h) (Or.inl ⟨by rfl, ?_⟩) (by assumption) ?_; rotate_left 1; · (intro w hSw; (try dsimp only at hSw); go_simp; (try with_reducible rfl))) | (refine wpAnyH_take (i := 1) (v := undef) (by simp only [List.getElem?_toArray, List.getElem?_cons_succ, List.getElem?_cons_zero]; rfl) (by kernel_rfl) (by kernel_rfl) (by kernel_rfl) (by exact fun _ _ _ h => h) (Or.inr ⟨by rfl, rfl⟩) (by assumption) ?_)); (try simp only [Act.put, List.setIfInBounds_toArray, List.set_cons_zero, List.set_cons_succ]))
    ((first | (refine wpAnyH_take (i := 2) (v := ?_) (by simp only [List.getElem?_toArray, List.getElem?_cons_succ, List.getElem?_cons_zero]; rfl) (by kernel_rfl) (by kernel_rfl) (by kernel_rfl) (by exact fun _ _ _ h => h) (Or.inl ⟨by rfl, ?_⟩) (by assumption) ?_; rotate_left 1; · (intro w hSw; (try dsimp only at hSw); go_simp; (try with_reducible rfl))) | (refine wpAnyH_take (i := 2) (v := undef) (by simp only [List.getElem?_toArray, List.getElem?_cons_succ, List.getElem?_cons_zero]; rfl) (by kernel_rfl) (by kernel_rfl) (by kernel_rfl) (by exact fun _ _ _ h => h) (Or.inr ⟨by rfl, rfl⟩) (by assumption) ?_)); (try simp only [Act.put, List.setIfInBounds_toArray, List.set_cons_zero, List.set_cons_succ]))
    ((first | (refine wpAnyH_take (i := 3) (v := ?_) (by simp only [List.getElem?_toArray, List.getElem?_cons_succ, List.getElem?_cons_zero]; rfl) (by kernel_rfl) (by kernel_rfl) (by kernel_rfl) (by exact fun _ _ _ h => h) (Or.inl ⟨by rfl, ?_⟩) (by assumption) ?_; rotate_left 1; · (intro w hSw; (try dsimp only at hSw); go_simp; (try with_reducible rfl))) | (refine wpAnyH_take (i := 3) (v := undef) (by simp only [List.getElem?_toArray, List.getElem?_cons_succ, List.getElem?_cons_zero]; rfl) (by kernel_rfl) (by kernel_rfl) (by kernel_rfl) (by exact fun _ _ _ h => h) (Or.inr ⟨by rfl, rfl⟩) (by assumption) ?_)); (try simp only [Act.put, List.setIfInBounds_toArray, List.set_cons_zero, List.set_cons_succ]))
    ((first | (refine wpAnyH_take (i := 4) (v := ?_) (by simp only [List.getElem?_toArray, List.getElem?_cons_succ, List.getElem?_cons_zero]; rfl) (by kernel_rfl) (by kernel_rfl) (by kernel_rfl) (by exact fun _ _ _ h => h) (Or.inl ⟨by rfl, ?_⟩) (by assumption) ?_; rotate_left 1; · (intro w hSw; (try dsimp only at hSw); go_simp; (try with_reducible rfl))) | (refine wpAnyH_take (i := 4) (v := undef) (by simp only [List.getElem?_toArray, List.getElem?_cons_succ, List.getElem?_cons_zero]; rfl) (by kernel_rfl) (by kernel_rfl) (by kernel_rfl) (by exact fun _ _ _ h => h) (Or.inr ⟨by rfl, rfl⟩) (by assumption) ?_)); (try simp only [Act.put, List.setIfInBounds_toArray, List.set_cons_zero, List.set_cons_succ]))
    ((first | (refine wpAnyH_take (i := 5) (v := ?_) (by simp only [List.getElem?_toArray, List.getElem?_cons_succ, List.getElem?_cons_zero]; rfl) (by kernel_rfl) (by kernel_rfl) (by kernel_rfl) (by exact fun _ _ _ h => h) (Or.inl ⟨by rfl, ?_⟩) (by assumption) ?_; rotate_left 1; · (intro w hSw; (try dsimp only at hSw); go_simp; (try with_reducible rfl))) | (refine wpAnyH_take (i := 5) (v := undef) (by simp only [List.getElem?_toArray, List.getElem?_cons_succ, List.getElem?_cons_zero]; rfl) (by kernel_rfl) (by kernel_rfl) (by kernel_rfl) (by exact fun _ _ _ h => h) (Or.inr ⟨by rfl, rfl⟩) (by assumption) ?_)); (try simp only [Act.put, List.setIfInBounds_toArray, List.set_cons_zero, List.set_cons_succ]))
    ((first | (refine wpAnyH_take (i := 6) (v := ?_) (by simp only [List.getElem?_toArray, List.getElem?_cons_succ, List.getElem?_cons_zero]; rfl) (by kernel_rfl) (by kernel_rfl) (by kernel_rfl) (by exact fun _ _ _ h => h) (Or.inl ⟨by rfl, ?_⟩) (by assumption) ?_; rotate_left 1; · (intro w hSw; (try dsimp only at hSw); go_simp; (try with_reducible rfl))) | (refine wpAnyH_take (i := 6) (v := undef) (by simp only [List.getElem?_toArray, List.getElem?_cons_succ, List.getElem?_cons_zero]; rfl) (by kernel_rfl) (by kernel_rfl) (by kernel_rfl) (by exact fun _ _ _ h => h) (Or.inr ⟨by rfl, rfl⟩) (by assumption) ?_)); (try simp only [Act.put, List.setIfInBounds_toArray, List.set_cons_zero, List.set_cons_succ]))
    ((first | (refine wpAnyH_take (i := 7) (v := ?_) (by simp only [List.getElem?_toArray, List.getElem?_cons_succ, List.getElem?_cons_zero]; rfl) (by kernel_rfl) (by kernel_rfl) (by kernel_rfl) (by exact fun _ _ _ h => h) (Or.inl ⟨by rfl, ?_⟩) (by assumption) ?_; rotate_left 1; · (intro w hSw; (try dsimp only at hSw); go_simp; (try with_reducible rfl))) | (refine wpAnyH_take (i := 7) (v := undef) (by simp only [List.getElem?_toArray, List.getElem?_cons_succ, List.getElem?_cons_zero]; rfl) (by kernel_rfl) (by kernel_rfl) (by kernel_rfl) (by exact fun _ _ _ h => h) (Or.inr ⟨by rfl, rfl⟩) (by assumption) ?_)); (try simp only [Act.put, List.setIfInBounds_toArray, List.set_cons_zero, List.set_cons_succ]))
    ((first | (refine wpAnyH_take (i := 8) (v := ?_) (by simp only [List.getElem?_toArray, List.getElem?_cons_succ, List.getElem?_cons_zero]; rfl) (by kernel_rfl) (by kernel_rfl) (by kernel_rfl) (by exact fun _ _ _ h => h) (Or.inl ⟨by rfl, ?_⟩) (by assumption) ?_; rotate_left 1; · (intro w hSw; (try dsimp only at hSw); go_simp; (try with_reducible rfl))) | (refine wpAnyH_take (i := 8) (v := undef) (by simp only [List.getElem?_toArray, List.getElem?_cons_succ, List.getElem?_cons_zero]; rfl) (by kernel_rfl) (by kernel_rfl) (by kernel_rfl) (by exact fun _ _ _ h => h) (Or.inr ⟨by rfl, rfl⟩) (by assumption) ?_)); (try simp only [Act.put, List.setIfInBounds_toArray, List.set_cons_zero, List.set_cons_succ]))
    ((first | (refine wpAnyH_take (i := 9) (v := ?_) (by simp only [List.getElem?_toArray, List.getElem?_cons_succ, List.getElem?_cons_zero]; rfl) (by kernel_rfl) (by kernel_rfl) (by kernel_rfl) (by exact fun _ _ _ h => h) (Or.inl ⟨by rfl, ?_⟩) (by assumption) ?_; rotate_left 1; · (intro w hSw; (try dsimp only at hSw); go_simp; (try with_reducible rfl))) | (refine wpAnyH_take (i := 9) (v := undef) (by simp only [List.getElem?_toArray, List.getElem?_cons_succ, List.getElem?_cons_zero]; rfl) (by kernel_rfl) (by kernel_rfl) (by kernel_rfl) (by exact fun _ _ _ h => h) (Or.inr ⟨by rfl, rfl⟩) (by assumption) ?_)); (try simp only [Act.put, List.setIfInBounds_toArray, List.set_cons_zero, List.set_cons_succ]))
    ((first | (refine wpAnyH_take (i := 10) (v := ?_) (by simp only [List.getElem?_toArray, List.getElem?_cons_succ, List.getElem?_cons_zero]; rfl) (by kernel_rfl) (by kernel_rfl) (by kernel_rfl) (by exact fun _ _ _ h => h) (Or.inl ⟨by rfl, ?_⟩) (by assumption) ?_; rotate_left 1; · (intro w hSw; (try dsimp only at hSw); go_simp; (try with_reducible rfl))) | (refine wpAnyH_take (i := 10) (v := undef) (by simp only [List.getElem?_toArray, List.getElem?_cons_succ, List.getElem?_cons_zero]; rfl) (by kernel_rfl) (by kernel_rfl) (by kernel_rfl) (by exact fun _ _ _ h => h) (Or.inr ⟨by rfl, rfl⟩) (by assumption) ?_)); (try simp only [Act.put, List.setIfInBounds_toArray, List.set_cons_zero, List.set_cons_succ]))
    ((first | (refine wpAnyH_take (i := 11) (v := ?_) (by simp only [List.getElem?_toArray, List.getElem?_cons_succ, List.getElem?_cons_zero]; rfl) (by kernel_rfl) (by kernel_rfl) (by kernel_rfl) (by exact fun _ _ _ h => h) (Or.inl ⟨by rfl, ?_⟩) (by assumption) ?_; rotate_left 1; · (intro w hSw; (try dsimp only at hSw); go_simp; (try with_reducible rfl))) | (refine wpAnyH_take (i := 11) (v := undef) (by simp only [List.getElem?_toArray, List.getElem?_cons_succ, List.getElem?_cons_zero]; rfl) (by kernel_rfl) (by kernel_rfl) (by kernel_rfl) (by exact fun _ _ _ h => h) (Or.inr ⟨by rfl, rfl⟩) (by assumption) ?_)); (try simp only [Act.put, List.setIfInBounds_toArray, List.set_cons_zero, List.set_cons_succ]))
    ((first | (refine wpAnyH_take (i := 12) (v := ?_) (by simp only [List.getElem?_toArray, List.getElem?_cons_succ, List.getElem?_cons_zero]; rfl) (by kernel_rfl) (by kernel_rfl) (by kernel_rfl) (by exact fun _ _ _ h => h) (Or.inl ⟨by rfl, ?_⟩) (by assumption) ?_; rotate_left 1; · (intro w hSw; (try dsimp only at hSw); go_simp; (try with_reducible rfl))) | (refine wpAnyH_take (i := 12) (v := undef) (by simp only [List.getElem?_toArray, List.getElem?_cons_succ, List.getElem?_cons_zero]; rfl) (by kernel_rfl) (by kernel_rfl) (by kernel_rfl) (by exact fun _ _ _ h => h) (Or.inr ⟨by rfl, rfl⟩) (by assumption) ?_)); (try simp only [Act.put, List.setIfInBounds_toArray, List.set_cons_zero, List.set_cons_succ]))
    ((first | (refine wpAnyH_take (i := 13) (v := ?_) (by simp only [List.getElem?_toArray, List.getElem?_cons_succ, List.getElem?_cons_zero]; rfl) (by kernel_rfl) (by kernel_rfl) (by kernel_rfl) (by exact fun _ _ _ h => h) (Or.inl ⟨by rfl, ?_⟩) (by assumption) ?_; rotate_left 1; · (intro w hSw; (try dsimp only at hSw); go_simp; (try with_reducible rfl))) | (refine wpAnyH_take (i := 13) (v := undef) (by simp only [List.getElem?_toArray, List.getElem?_cons_succ, List.getElem?_cons_zero]; rfl) (by kernel_rfl) (by kernel_rfl) (by kernel_rfl) (by exact fun _ _ _ h => h) (Or.inr ⟨by rfl, rfl⟩) (by assumption) ?_)); (try simp only [Act.put, List.setIfInBounds_toArray, List.set_cons_zero, List.set_cons_succ]))
    ((first | (refine wpAnyH_take (i := 14) (v := ?_) (by simp only [List.getElem?_toArray, List.getElem?_cons_succ, List.getElem?_cons_zero]; rfl) (by kernel_rfl) (by kernel_rfl) (by kernel_rfl) (by exact fun _ _ _ h => h) (Or.inl ⟨by rfl, ?_⟩) (by assumption) ?_; rotate_left 1; · (intro w hSw; (try dsimp only at hSw); go_simp; (try with_reducible rfl))) | (refine wpAnyH_take (i := 14) (v := undef) (by simp only [List.getElem?_toArray, List.getElem?_cons_succ, List.getElem?_cons_zero]; rfl) (by kernel_rfl) (by kernel_rfl) (by kernel_rfl) (by exact fun _ _ _ h => h) (Or.inr ⟨by rfl, rfl⟩) (by assumption) ?_)); (try simp only [Act.put, List.setIfInBounds_toArray, List.set_cons_zero, List.set_cons_succ]))
    ((first | (refine wpAnyH_take (i := 15) (v := ?_) (by simp only [List.getElem?_toArray, List.getElem?_cons_succ, List.getElem?_cons_zero]; rfl) (by kernel_rfl) (by kernel_rfl) (by kernel_rfl) (by exact fun _ _ _ h => h) (Or.inl ⟨by rfl, ?_⟩) (by assumption) ?_; rotate_left 1; · (intro w hSw; (try dsimp only at hSw); go_simp; (try with_reducible rfl))) | (refine wpAnyH_take (i := 15) (v := undef) (by simp only [List.getElem?_toArray, List.getElem?_cons_succ, List.getElem?_cons_zero]; rfl) (by kernel_rfl) (by kernel_rfl) (by kernel_rfl) (by exact fun _ _ _ h => h) (Or.inr ⟨by rfl, rfl⟩) (by assumption) ?_)); (try simp only [Act.put, List.setIfInBounds_toArray, List.set_cons_zero, List.set_cons_succ]))
    (refine wpAnyH_ready (rs := [16]) (by kernel_rfl) (by simp) ?_; refine AllReadyH.cons (by simp only [List.getElem?_toArray, List.getElem?_cons_succ, List.getElem?_cons_zero]; rfl) (fun K hK => ?_) AllReadyH.nil; go_simp; go_at_call 51; refine (HOW.out _).mono ?_; rintro e w5 ⟨rfl, hb4⟩; (first | have HBN := Lib.hid (HBL.out.trans ((below_undrew2 hb4).mono HBL.out.size)) | have HBN := Lib.hid (HBL.out.trans (hb4.mono HBL.out.size))); replace HBL := HBN; clear HBN; refine hK.out _ _ (⟨cell_later hb4 hHeld.1, cell_later hb4 hHeld.2.1, cell_later hb4 hHeld.2.2.1, cell_later hb4 hHeld.2.2.2.1, cell_later hb4 hHeld.2.2.2.2.1, cell_later hb4 hHeld.2.2.2.2.2.1, cell_later hb4 hHeld.2.2.2.2.2.2.1, cell_later hb4 hHeld.2.2.2.2.2.2.2.1, cell_later hb4 hHeld.2.2.2.2.2.2.2.2.1, cell_later hb4 hHeld.2.2.2.2.2.2.2.2.2.1, cell_later hb4 hHeld.2.2.2.2.2.2.2.2.2.2.1, cell_later hb4 hHeld.2.2.2.2.2.2.2.2.2.2.2.1, cell_later hb4 hHeld.2.2.2.2.2.2.2.2.2.2.2.2.1, cell_later hb4 hHeld.2.2.2.2.2.2.2.2.2.2.2.2.2⟩) (fun hHeld => ?_); clear hK K; (try simp only [Act.put, List.setIfInBounds_toArray, List.set_cons_zero, List.set_cons_succ]))
    ((first | (refine wpAnyH_take (i := 17) (v := ?_) (by simp only [List.getElem?_toArray, List.getElem?_cons_succ, List.getElem?_cons_zero]; rfl) (by kernel_rfl) (by kernel_rfl) (by kernel_rfl) (by exact fun _ _ _ h => h) (Or.inl ⟨by rfl, ?_⟩) (by assumption) ?_; rotate_left 1; · (intro w hSw; (try dsimp only at hSw); go_simp; (try with_reducible rfl))) | (refine wpAnyH_take (i := 17) (v := undef) (by simp only [List.getElem?_toArray, List.getElem?_cons_succ, List.getElem?_cons_zero]; rfl) (by kernel_rfl) (by kernel_rfl) (by kernel_rfl) (by exact fun _ _ _ h => h) (Or.inr ⟨by rfl, rfl⟩) (by assumption) ?_)); (try simp only [Act.put, List.setIfInBounds_toArray, List.set_cons_zero, List.set_cons_succ]))
    ((first | (refine wpAnyH_take (i := 18) (v := ?_) (by simp only [List.getElem?_toArray, List.getElem?_cons_succ, List.getElem?_cons_zero]; rfl) (by kernel_rfl) (by kernel_rfl) (by kernel_rfl) (by exact fun _ _ _ h => h) (Or.inl ⟨by rfl, ?_⟩) (by assumption) ?_; rotate_left 1; · (intro w hSw; (try dsimp only at hSw); go_simp; (try with_reducible rfl))) | (refine wpAnyH_take (i := 18) (v := undef) (by simp only [List.getElem?_toArray, List.getElem?_cons_succ, List.getElem?_cons_zero]; rfl) (by kernel_rfl) (by kernel_rfl) (by kernel_rfl) (by exact fun _ _ _ h => h) (Or.inr ⟨by rfl, rfl⟩) (by assumption) ?_)); (try simp only [Act.put, List.setIfInBounds_toArray, List.set_cons_zero, List.set_cons_succ]))
    (refine wpAnyH_done (by kernel_rfl) ?_ _)
    go_upto_region 18 with fail
    clear s2 s3 s4 s5 s6
    obtain ⟨BB, hBB⟩ : ∃ q : ByteArray, NU ++ NW ++ DB ++ z.sex ++ DE ++ OW = q := ⟨_, rfl⟩
    rw [hBB]
    have E_BB := Lib.hid hBB
    clear hBB
    have zBB : 35 ≤ BB.size ∧ BB.size ≤ 35 := eq2 (by rw [← E_BB.out]; simp only [ByteArray.size_append]; omega)
    have i10 : (10 : Int) ≤ (BB.size : Int) := by omega
    have i20 : (20 : Int) ≤ (BB.size : Int) := by omega
    have i35 : (35 : Int) ≤ (BB.size : Int) := by omega
    obtain ⟨P0, hP0⟩ : ∃ q, BB.extract 0 10 = q := ⟨_, rfl⟩
    have zP0 : 10 ≤ P0.size ∧ P0.size ≤ 10 := eq2 (by rw [← hP0, ByteArray.size_extract]; omega)
    obtain ⟨P1, hP1⟩ : ∃ q, BB.extract 13 20 = q := ⟨_, rfl⟩
    have zP1 : 7 ≤ P1.size ∧ P1.size ≤ 7 := eq2 (by rw [← hP1, ByteArray.size_extract]; omega)
    obtain ⟨P2, hP2⟩ : ∃ q, BB.extract 21 35 = q := ⟨_, rfl⟩
    have zP2 : 14 ≤ P2.size ∧ P2.size ≤ 14 := eq2 (by rw [← hP2, ByteArray.size_extract]; omega)
    have HDG := Lib.hid (fun W => rdigit (P0 ++ P1 ++ P2) W (by simp only [ByteArray.size_append]; omega))
    obtain ⟨DG, hDG⟩ : ∃ q : ByteArray, Opt.digS (P0 ++ P1 ++ P2) = q := ⟨_, rfl⟩
    obtain ⟨DGx, hDGx⟩ : ∃ q, Opt.digE (P0 ++ P1 ++ P2) = q := ⟨_, rfl⟩
    rw [hDG, hDGx] at HDG
    have zDG : DG.size ≤ 1 := by rw [← hDG]; exact digS_one _
    have E_DG := Lib.hid hDG
    clear hDG hDGx
    have s2 : ¬ (9223372036854775807 < P0.size + P1.size) := by omega
    have s3 : ¬ (9223372036854775807 < P0.size + P1.size + P2.size) := by omega
    (refine wp_region_held_drew (S := (fun W => W.cell? ⟨g1, 0, none⟩ = some (.int .i64 2) ∧ W.cell? ⟨g1, 1, none⟩ = some (.string z.kind) ∧ W.cell? ⟨g1, 2, none⟩ = some (.string z.state) ∧ W.cell? ⟨g1, 3, none⟩ = some (.string z.sur) ∧ W.cell? ⟨g1, 4, none⟩ = some (.string z.giv) ∧ W.cell? ⟨g1, 5, none⟩ = some (.string z.num) ∧ W.cell? ⟨g1, 6, none⟩ = some (.string z.nat) ∧ W.cell? ⟨g1, 7, none⟩ = some (.string z.birth) ∧ W.cell? ⟨g1, 8, none⟩ = some (.string z.sex) ∧ W.cell? ⟨g1, 9, none⟩ = some (.string z.exp) ∧ W.cell? ⟨g1, 10, none⟩ = some (.string z.opt) ∧ W.cell? ⟨g1, 11, none⟩ = some (.string z.sec) ∧ W.cell? ⟨g2, 0, none⟩ = some (.string DB) ∧ W.cell? ⟨g2, 1, none⟩ = some (.string DE))) (by kernel_rfl) (hHeld) (fun hHeld => ?_))
    ((first | (refine wpAnyH_take (i := 0) (v := ?_) (by simp only [List.getElem?_toArray, List.getElem?_cons_zero]; rfl) (by kernel_rfl) (by kernel_rfl) (by kernel_rfl) (by exact fun _ _ _ h => h) (Or.inl ⟨by rfl, ?_⟩) (by assumption) ?_; rotate_left 1; · (intro w hSw; (try dsimp only at hSw); go_simp; (try with_reducible rfl))) | (refine wpAnyH_take (i := 0) (v := undef) (by simp only [List.getElem?_toArray, List.getElem?_cons_zero]; rfl) (by kernel_rfl) (by kernel_rfl) (by kernel_rfl) (by exact fun _ _ _ h => h) (Or.inr ⟨by rfl, rfl⟩) (by assumption) ?_)); (try simp only [Act.put, List.setIfInBounds_toArray, List.set_cons_zero, List.set_cons_succ]))
    ((first | (refine wpAnyH_take (i := 1) (v := ?_) (by simp only [List.getElem?_toArray, List.getElem?_cons_succ, List.getElem?_cons_zero]; rfl) (by kernel_rfl) (by kernel_rfl) (by kernel_rfl) (by exact fun _ _ _ h => h) (Or.inl ⟨by rfl, ?_⟩) (by assumption) ?_; rotate_left 1; · (intro w hSw; (try dsimp only at hSw); go_simp; (try with_reducible rfl))) | (refine wpAnyH_take (i := 1) (v := undef) (by simp only [List.getElem?_toArray, List.getElem?_cons_succ, List.getElem?_cons_zero]; rfl) (by kernel_rfl) (by kernel_rfl) (by kernel_rfl) (by exact fun _ _ _ h => h) (Or.inr ⟨by rfl, rfl⟩) (by assumption) ?_)); (try simp only [Act.put, List.setIfInBounds_toArray, List.set_cons_zero, List.set_cons_succ]))
    ((first | (refine wpAnyH_take (i := 2) (v := ?_) (by simp only [List.getElem?_toArray, List.getElem?_cons_succ, List.getElem?_cons_zero]; rfl) (by kernel_rfl) (by kernel_rfl) (by kernel_rfl) (by exact fun _ _ _ h => h) (Or.inl ⟨by rfl, ?_⟩) (by assumption) ?_; rotate_left 1; · (intro w hSw; (try dsimp only at hSw); go_simp; (try with_reducible rfl))) | (refine wpAnyH_take (i := 2) (v := undef) (by simp only [List.getElem?_toArray, List.getElem?_cons_succ, List.getElem?_cons_zero]; rfl) (by kernel_rfl) (by kernel_rfl) (by kernel_rfl) (by exact fun _ _ _ h => h) (Or.inr ⟨by rfl, rfl⟩) (by assumption) ?_)); (try simp only [Act.put, List.setIfInBounds_toArray, List.set_cons_zero, List.set_cons_succ]))
    ((first | (refine wpAnyH_take (i := 3) (v := ?_) (by simp only [List.getElem?_toArray, List.getElem?_cons_succ, List.getElem?_cons_zero]; rfl) (by kernel_rfl) (by kernel_rfl) (by kernel_rfl) (by exact fun _ _ _ h => h) (Or.inl ⟨by rfl, ?_⟩) (by assumption) ?_; rotate_left 1; · (intro w hSw; (try dsimp only at hSw); go_simp; (try with_reducible rfl))) | (refine wpAnyH_take (i := 3) (v := undef) (by simp only [List.getElem?_toArray, List.getElem?_cons_succ, List.getElem?_cons_zero]; rfl) (by kernel_rfl) (by kernel_rfl) (by kernel_rfl) (by exact fun _ _ _ h => h) (Or.inr ⟨by rfl, rfl⟩) (by assumption) ?_)); (try simp only [Act.put, List.setIfInBounds_toArray, List.set_cons_zero, List.set_cons_succ]))
    ((first | (refine wpAnyH_take (i := 4) (v := ?_) (by simp only [List.getElem?_toArray, List.getElem?_cons_succ, List.getElem?_cons_zero]; rfl) (by kernel_rfl) (by kernel_rfl) (by kernel_rfl) (by exact fun _ _ _ h => h) (Or.inl ⟨by rfl, ?_⟩) (by assumption) ?_; rotate_left 1; · (intro w hSw; (try dsimp only at hSw); go_simp; (try with_reducible rfl))) | (refine wpAnyH_take (i := 4) (v := undef) (by simp only [List.getElem?_toArray, List.getElem?_cons_succ, List.getElem?_cons_zero]; rfl) (by kernel_rfl) (by kernel_rfl) (by kernel_rfl) (by exact fun _ _ _ h => h) (Or.inr ⟨by rfl, rfl⟩) (by assumption) ?_)); (try simp only [Act.put, List.setIfInBounds_toArray, List.set_cons_zero, List.set_cons_succ]))
    ((first | (refine wpAnyH_take (i := 5) (v := ?_) (by simp only [List.getElem?_toArray, List.getElem?_cons_succ, List.getElem?_cons_zero]; rfl) (by kernel_rfl) (by kernel_rfl) (by kernel_rfl) (by exact fun _ _ _ h => h) (Or.inl ⟨by rfl, ?_⟩) (by assumption) ?_; rotate_left 1; · (intro w hSw; (try dsimp only at hSw); go_simp; (try with_reducible rfl))) | (refine wpAnyH_take (i := 5) (v := undef) (by simp only [List.getElem?_toArray, List.getElem?_cons_succ, List.getElem?_cons_zero]; rfl) (by kernel_rfl) (by kernel_rfl) (by kernel_rfl) (by exact fun _ _ _ h => h) (Or.inr ⟨by rfl, rfl⟩) (by assumption) ?_)); (try simp only [Act.put, List.setIfInBounds_toArray, List.set_cons_zero, List.set_cons_succ]))
    ((first | (refine wpAnyH_take (i := 6) (v := ?_) (by simp only [List.getElem?_toArray, List.getElem?_cons_succ, List.getElem?_cons_zero]; rfl) (by kernel_rfl) (by kernel_rfl) (by kernel_rfl) (by exact fun _ _ _ h => h) (Or.inl ⟨by rfl, ?_⟩) (by assumption) ?_; rotate_left 1; · (intro w hSw; (try dsimp only at hSw); go_simp; (try with_reducible rfl))) | (refine wpAnyH_take (i := 6) (v := undef) (by simp only [List.getElem?_toArray, List.getElem?_cons_succ, List.getElem?_cons_zero]; rfl) (by kernel_rfl) (by kernel_rfl) (by kernel_rfl) (by exact fun _ _ _ h => h) (Or.inr ⟨by rfl, rfl⟩) (by assumption) ?_)); (try simp only [Act.put, List.setIfInBounds_toArray, List.set_cons_zero, List.set_cons_succ]))
    ((first | (refine wpAnyH_take (i := 7) (v := ?_) (by simp only [List.getElem?_toArray, List.getElem?_cons_succ, List.getElem?_cons_zero]; rfl) (by kernel_rfl) (by kernel_rfl) (by kernel_rfl) (by exact fun _ _ _ h => h) (Or.inl ⟨by rfl, ?_⟩) (by assumption) ?_; rotate_left 1; · (intro w hSw; (try dsimp only at hSw); go_simp; (try with_reducible rfl))) | (refine wpAnyH_take (i := 7) (v := undef) (by simp only [List.getElem?_toArray, List.getElem?_cons_succ, List.getElem?_cons_zero]; rfl) (by kernel_rfl) (by kernel_rfl) (by kernel_rfl) (by exact fun _ _ _ h => h) (Or.inr ⟨by rfl, rfl⟩) (by assumption) ?_)); (try simp only [Act.put, List.setIfInBounds_toArray, List.set_cons_zero, List.set_cons_succ]))
    (refine wpAnyH_ready (rs := [8]) (by kernel_rfl) (by simp) ?_; refine AllReadyH.cons (by simp only [List.getElem?_toArray, List.getElem?_cons_succ, List.getElem?_cons_zero]; rfl) (fun K hK => ?_) AllReadyH.nil; go_simp; go_at_call 55; refine (HDG.out _).mono ?_; rintro e w5 ⟨rfl, hb4⟩; (first | have HBN := Lib.hid (HBL.out.trans ((below_undrew2 hb4).mono HBL.out.size)) | have HBN := Lib.hid (HBL.out.trans (hb4.mono HBL.out.size))); replace HBL := HBN; clear HBN; refine hK.out _ _ (⟨cell_later hb4 hHeld.1, cell_later hb4 hHeld.2.1, cell_later hb4 hHeld.2.2.1, cell_later hb4 hHeld.2.2.2.1, cell_later hb4 hHeld.2.2.2.2.1, cell_later hb4 hHeld.2.2.2.2.2.1, cell_later hb4 hHeld.2.2.2.2.2.2.1, cell_later hb4 hHeld.2.2.2.2.2.2.2.1, cell_later hb4 hHeld.2.2.2.2.2.2.2.2.1, cell_later hb4 hHeld.2.2.2.2.2.2.2.2.2.1, cell_later hb4 hHeld.2.2.2.2.2.2.2.2.2.2.1, cell_later hb4 hHeld.2.2.2.2.2.2.2.2.2.2.2.1, cell_later hb4 hHeld.2.2.2.2.2.2.2.2.2.2.2.2.1, cell_later hb4 hHeld.2.2.2.2.2.2.2.2.2.2.2.2.2⟩) (fun hHeld => ?_); clear hK K; (try simp only [Act.put, List.setIfInBounds_toArray, List.set_cons_zero, List.set_cons_succ]))
    ((first | (refine wpAnyH_take (i := 9) (v := ?_) (by simp only [List.getElem?_toArray, List.getElem?_cons_succ, List.getElem?_cons_zero]; rfl) (by kernel_rfl) (by kernel_rfl) (by kernel_rfl) (by exact fun _ _ _ h => h) (Or.inl ⟨by rfl, ?_⟩) (by assumption) ?_; rotate_left 1; · (intro w hSw; (try dsimp only at hSw); go_simp; (try with_reducible rfl))) | (refine wpAnyH_take (i := 9) (v := undef) (by simp only [List.getElem?_toArray, List.getElem?_cons_succ, List.getElem?_cons_zero]; rfl) (by kernel_rfl) (by kernel_rfl) (by kernel_rfl) (by exact fun _ _ _ h => h) (Or.inr ⟨by rfl, rfl⟩) (by assumption) ?_)); (try simp only [Act.put, List.setIfInBounds_toArray, List.set_cons_zero, List.set_cons_succ]))
    ((first | (refine wpAnyH_take (i := 10) (v := ?_) (by simp only [List.getElem?_toArray, List.getElem?_cons_succ, List.getElem?_cons_zero]; rfl) (by kernel_rfl) (by kernel_rfl) (by kernel_rfl) (by exact fun _ _ _ h => h) (Or.inl ⟨by rfl, ?_⟩) (by assumption) ?_; rotate_left 1; · (intro w hSw; (try dsimp only at hSw); go_simp; (try with_reducible rfl))) | (refine wpAnyH_take (i := 10) (v := undef) (by simp only [List.getElem?_toArray, List.getElem?_cons_succ, List.getElem?_cons_zero]; rfl) (by kernel_rfl) (by kernel_rfl) (by kernel_rfl) (by exact fun _ _ _ h => h) (Or.inr ⟨by rfl, rfl⟩) (by assumption) ?_)); (try simp only [Act.put, List.setIfInBounds_toArray, List.set_cons_zero, List.set_cons_succ]))
    ((first | (refine wpAnyH_take (i := 11) (v := ?_) (by simp only [List.getElem?_toArray, List.getElem?_cons_succ, List.getElem?_cons_zero]; rfl) (by kernel_rfl) (by kernel_rfl) (by kernel_rfl) (by exact fun _ _ _ h => h) (Or.inl ⟨by rfl, ?_⟩) (by assumption) ?_; rotate_left 1; · (intro w hSw; (try dsimp only at hSw); go_simp; (try with_reducible rfl))) | (refine wpAnyH_take (i := 11) (v := undef) (by simp only [List.getElem?_toArray, List.getElem?_cons_succ, List.getElem?_cons_zero]; rfl) (by kernel_rfl) (by kernel_rfl) (by kernel_rfl) (by exact fun _ _ _ h => h) (Or.inr ⟨by rfl, rfl⟩) (by assumption) ?_)); (try simp only [Act.put, List.setIfInBounds_toArray, List.set_cons_zero, List.set_cons_succ]))
    ((first | (refine wpAnyH_take (i := 12) (v := ?_) (by simp only [List.getElem?_toArray, List.getElem?_cons_succ, List.getElem?_cons_zero]; rfl) (by kernel_rfl) (by kernel_rfl) (by kernel_rfl) (by exact fun _ _ _ h => h) (Or.inl ⟨by rfl, ?_⟩) (by assumption) ?_; rotate_left 1; · (intro w hSw; (try dsimp only at hSw); go_simp; (try with_reducible rfl))) | (refine wpAnyH_take (i := 12) (v := undef) (by simp only [List.getElem?_toArray, List.getElem?_cons_succ, List.getElem?_cons_zero]; rfl) (by kernel_rfl) (by kernel_rfl) (by kernel_rfl) (by exact fun _ _ _ h => h) (Or.inr ⟨by rfl, rfl⟩) (by assumption) ?_)); (try simp only [Act.put, List.setIfInBounds_toArray, List.set_cons_zero, List.set_cons_succ]))
    ((first | (refine wpAnyH_take (i := 13) (v := ?_) (by simp only [List.getElem?_toArray, List.getElem?_cons_succ, List.getElem?_cons_zero]; rfl) (by kernel_rfl) (by kernel_rfl) (by kernel_rfl) (by exact fun _ _ _ h => h) (Or.inl ⟨by rfl, ?_⟩) (by assumption) ?_; rotate_left 1; · (intro w hSw; (try dsimp only at hSw); go_simp; (try with_reducible rfl))) | (refine wpAnyH_take (i := 13) (v := undef) (by simp only [List.getElem?_toArray, List.getElem?_cons_succ, List.getElem?_cons_zero]; rfl) (by kernel_rfl) (by kernel_rfl) (by kernel_rfl) (by exact fun _ _ _ h => h) (Or.inr ⟨by rfl, rfl⟩) (by assumption) ?_)); (try simp only [Act.put, List.setIfInBounds_toArray, List.set_cons_zero, List.set_cons_succ]))
    (refine wpAnyH_done (by kernel_rfl) ?_ _)
    clear s2 s3
    clear i10 i20 i35
    have E_P0 := Lib.hid hP0; have E_P1 := Lib.hid hP1; have E_P2 := Lib.hid hP2
    clear hP0 hP1 hP2
    have t1 : ¬ (9223372036854775807 < KW.size + SW.size + NM.size) := by omega
    have t2 : ¬ (9223372036854775807 < BB.size + DG.size) := by omega
    go_wp2_with fail
    have HPO := Lib.hid (rbuild_two (KW ++ SW ++ NM) (BB ++ DG) HBL.out (Zn.rbld_2 HGD.out HFM.out E_KW.out E_SW.out E_NM.out E_NU.out E_RS.out E_DB.out E_DE.out E_NW.out E_OW.out E_BB.out (by rw [E_P0.out, E_P1.out, E_P2.out]; exact E_DG.out)))
    go_ret2
    exact BldPost.yes HVE.out HPO.out.1 HPO.out.2
set_option maxRecDepth 100000 in
set_option maxHeartbeats 16000000 in
theorem rbuild_3 (z : Zn.Z) (w : World) (hf : z.fmt = 3) (hv : Zn.vldE z = 0) (hab : z.sur.size + z.giv.size ≤ 140737488355000) (hvl : ∀ W, Calls Tryz.prog 24 #[.agg #[.int .i64 3, .string z.kind, .string z.state, .string z.sur, .string z.giv, .string z.num, .string z.nat, .string z.birth, .string z.sex, .string z.exp, .string z.opt, .string z.sec]] W fun e w' => e = .returned (.int .i64 0) ∧ Below W.heap.size W w') :
    Calls Tryz.prog 20 #[.agg #[.int .i64 3, .string z.kind, .string z.state, .string z.sur, .string z.giv, .string z.num, .string z.nat, .string z.birth, .string z.sex, .string z.exp, .string z.opt, .string z.sec]] w (BldPost z w) := by
  have HGD := Lib.hid (Zn.good_of hv)
  have HKW := Lib.hid (fun W => rwideS z.kind 2 W (by omega))
  obtain ⟨KW, hKW⟩ : ∃ q : ByteArray, Zn.wS z.kind 2 = q := ⟨_, rfl⟩
  rw [hKW] at HKW
  have E_KW := Lib.hid hKW
  have zKW : 2 ≤ KW.size ∧ KW.size ≤ 2 := eq2 (by rw [← hKW]; exact Zn.wS_size (by have := Zn.letters_le HGD.out.kind; omega))
  have HSW := Lib.hid (fun W => rwideS z.state 3 W (by omega))
  obtain ⟨SW, hSW⟩ : ∃ q : ByteArray, Zn.wS z.state 3 = q := ⟨_, rfl⟩
  rw [hSW] at HSW
  have E_SW := Lib.hid hSW
  have zSW : 3 ≤ SW.size ∧ SW.size ≤ 3 := eq2 (by rw [← hSW]; exact Zn.wS_size (by have := Zn.letters_le HGD.out.state; omega))
  have HNU := Lib.hid (fun W => rnumber z.num W (by have := HGD.out.numLe20; omega))
  obtain ⟨NU, hNU⟩ : ∃ q : ByteArray, Zn.nuA z.num = q := ⟨_, rfl⟩
  rw [hNU] at HNU
  have E_NU := Lib.hid hNU
  obtain ⟨RS, hRS⟩ : ∃ q : ByteArray, Zn.nuB z.num = q := ⟨_, rfl⟩
  rw [hRS] at HNU
  have E_RS := Lib.hid hRS
  have zNU : 10 ≤ NU.size ∧ NU.size ≤ 10 := eq2 (by rw [← hNU]; exact HGD.out.nuA_size)
  have ZRS := Lib.hid (show RS.size + z.opt.size = if 9 < z.num.size then z.num.size - 7 + z.opt.size else z.opt.size by rw [← hRS]; exact HGD.out.nuB_size)
  have HDB := Lib.hid (fun W => rchecked z.birth W (by have := Zn.birth_size HGD.out.birth; omega))
  obtain ⟨DB, hDB⟩ : ∃ q : ByteArray, Zn.ckS z.birth = q := ⟨_, rfl⟩
  rw [hDB] at HDB
  have E_DB := Lib.hid hDB
  have zDB : 7 ≤ DB.size ∧ DB.size ≤ 7 := eq2 (by rw [← hDB]; exact HGD.out.db_size)
  have HDE := Lib.hid (fun W => rchecked z.exp W (by have := Zn.prE_size HGD.out.exp; omega))
  obtain ⟨DE, hDE⟩ : ∃ q : ByteArray, Zn.ckS z.exp = q := ⟨_, rfl⟩
  rw [hDE] at HDE
  have E_DE := Lib.hid hDE
  have zDE : 7 ≤ DE.size ∧ DE.size ≤ 7 := eq2 (by rw [← hDE]; exact HGD.out.de_size)
  have HNW := Lib.hid (fun W => rwideS z.nat 3 W (by omega))
  obtain ⟨NW, hNW⟩ : ∃ q : ByteArray, Zn.wS z.nat 3 = q := ⟨_, rfl⟩
  rw [hNW] at HNW
  have E_NW := Lib.hid hNW
  have zNW : 3 ≤ NW.size ∧ NW.size ≤ 3 := eq2 (by rw [← hNW]; exact Zn.wS_size (by have := Zn.letters_le HGD.out.nat; omega))
  have HNA := Lib.hid (fun W => rnames_any z.sur z.giv 39 W hab)
  obtain ⟨nmx, hnmx⟩ : ∃ q, Opt.nmE z.sur.data.toList z.giv.data.toList 39 = q := ⟨_, rfl⟩
  rw [hnmx] at HNA
  clear hnmx
  obtain ⟨NM, hNM⟩ : ∃ q : ByteArray, (⟨(Opt.nmV z.sur.data.toList z.giv.data.toList 39).toArray⟩ : ByteArray) = q := ⟨_, rfl⟩
  rw [hNM] at HNA
  have E_NM := Lib.hid hNM
  have zNM : NM.size ≤ 39 := by rw [← hNM, arr_size]; exact nmV_len _ _ _
  have zsx : z.sex.size ≤ 1 ∧ 1 ≤ z.sex.size := (by have := Zn.sex_le HGD.out.sex; omega)
  have zop := HGD.out.optLe
  have zse : z.sec.size ≤ 11 := by have := HGD.out.secLe; omega
  clear hKW hSW hNU hRS hDB hDE hNW hNM
  have HVL := Lib.hid hvl
  have HVE := Lib.hid hv
  have HFM := Lib.hid hf
  have hb1 := below_alloc1 w (.cells #[.int .i64 3, .string z.kind, .string z.state, .string z.sur, .string z.giv, .string z.num, .string z.nat, .string z.birth, .string z.sex, .string z.exp, .string z.opt, .string z.sec] 24)
  have hbx := zbox_new_at w z 3 hf
  clear hf hv hab hvl
  have hix : ∀ w, (Instr.index 37 (.agg #[.int .i64 0, .int .i64 30, .int .i64 31, .int .i64 39]) (.int .i64 3)).run Tryz.prog w = .ok (.int .i64 39) w := fun _ => by kernel_rfl
  go_enter Tryz.func20, Tryz.ntmps20
  go_upto_region 1 with fail
  generalize w.alloc (.cells #[.int .i64 3, .string z.kind, .string z.state, .string z.sur, .string z.giv, .string z.num, .string z.nat, .string z.birth, .string z.sex, .string z.exp, .string z.opt, .string z.sec] 24) = w1 at hb1 hbx ⊢
  have HB1 := Lib.hid hb1; have HX := Lib.hid hbx
  clear hb1 hbx
  obtain ⟨g1, hg1⟩ : ∃ q, w.heap.size = q := ⟨_, rfl⟩
  rw [hg1] at HX ⊢
  have HG1 := Lib.hid hg1
  clear hg1
  obtain ⟨x0, x1, x2, x3, x4, x5, x6, x7, x8, x9, x10, x11⟩ := HX.out
  go_wp2_with fail
  refine (HVL.out _).mono ?_; rintro e w2 ⟨rfl, hb2⟩
  have HBL := Lib.hid (HB1.out.trans (hb2.mono HB1.out.size))
  have hHeld := zcells_later hb2 HX.out
  clear hb2 HB1 HX x0 x1 x2 x3 x4 x5 x6 x7 x8 x9 x10 x11
  have s1 : ¬ (9223372036854775807 < KW.size + SW.size) := by omega
  go_wp2_with fail
  (refine wp_region_held_drew (S := (fun W => W.cell? ⟨g1, 0, none⟩ = some (.int .i64 3) ∧ W.cell? ⟨g1, 1, none⟩ = some (.string z.kind) ∧ W.cell? ⟨g1, 2, none⟩ = some (.string z.state) ∧ W.cell? ⟨g1, 3, none⟩ = some (.string z.sur) ∧ W.cell? ⟨g1, 4, none⟩ = some (.string z.giv) ∧ W.cell? ⟨g1, 5, none⟩ = some (.string z.num) ∧ W.cell? ⟨g1, 6, none⟩ = some (.string z.nat) ∧ W.cell? ⟨g1, 7, none⟩ = some (.string z.birth) ∧ W.cell? ⟨g1, 8, none⟩ = some (.string z.sex) ∧ W.cell? ⟨g1, 9, none⟩ = some (.string z.exp) ∧ W.cell? ⟨g1, 10, none⟩ = some (.string z.opt) ∧ W.cell? ⟨g1, 11, none⟩ = some (.string z.sec))) (by kernel_rfl) (hHeld) (fun hHeld => ?_))
  ((first | (refine wpAnyH_take (i := 0) (v := ?_) (by simp only [List.getElem?_toArray, List.getElem?_cons_zero]; rfl) (by kernel_rfl) (by kernel_rfl) (by kernel_rfl) (by exact fun _ _ _ h => h) (Or.inl ⟨by rfl, ?_⟩) (by assumption) ?_; rotate_left 1; · (intro w hSw; (try dsimp only at hSw); go_simp; (try with_reducible rfl))) | (refine wpAnyH_take (i := 0) (v := undef) (by simp only [List.getElem?_toArray, List.getElem?_cons_zero]; rfl) (by kernel_rfl) (by kernel_rfl) (by kernel_rfl) (by exact fun _ _ _ h => h) (Or.inr ⟨by rfl, rfl⟩) (by assumption) ?_)); (try simp only [Act.put, List.setIfInBounds_toArray, List.set_cons_zero, List.set_cons_succ]))
  ((first | (refine wpAnyH_take (i := 1) (v := ?_) (by simp only [List.getElem?_toArray, List.getElem?_cons_succ, List.getElem?_cons_zero]; rfl) (by kernel_rfl) (by kernel_rfl) (by kernel_rfl) (by exact fun _ _ _ h => h) (Or.inl ⟨by rfl, ?_⟩) (by assumption) ?_; rotate_left 1; · (intro w hSw; (try dsimp only at hSw); go_simp; (try with_reducible rfl))) | (refine wpAnyH_take (i := 1) (v := undef) (by simp only [List.getElem?_toArray, List.getElem?_cons_succ, List.getElem?_cons_zero]; rfl) (by kernel_rfl) (by kernel_rfl) (by kernel_rfl) (by exact fun _ _ _ h => h) (Or.inr ⟨by rfl, rfl⟩) (by assumption) ?_)); (try simp only [Act.put, List.setIfInBounds_toArray, List.set_cons_zero, List.set_cons_succ]))
  ((first | (refine wpAnyH_take (i := 3) (v := ?_) (by simp only [List.getElem?_toArray, List.getElem?_cons_succ, List.getElem?_cons_zero]; rfl) (by kernel_rfl) (by kernel_rfl) (by kernel_rfl) (by exact fun _ _ _ h => h) (Or.inl ⟨by rfl, ?_⟩) (by assumption) ?_; rotate_left 1; · (intro w hSw; (try dsimp only at hSw); go_simp; (try with_reducible rfl))) | (refine wpAnyH_take (i := 3) (v := undef) (by simp only [List.getElem?_toArray, List.getElem?_cons_succ, List.getElem?_cons_zero]; rfl) (by kernel_rfl) (by kernel_rfl) (by kernel_rfl) (by exact fun _ _ _ h => h) (Or.inr ⟨by rfl, rfl⟩) (by assumption) ?_)); (try simp only [Act.put, List.setIfInBounds_toArray, List.set_cons_zero, List.set_cons_succ]))
  ((first | (refine wpAnyH_take (i := 4) (v := ?_) (by simp only [List.getElem?_toArray, List.getElem?_cons_succ, List.getElem?_cons_zero]; rfl) (by kernel_rfl) (by kernel_rfl) (by kernel_rfl) (by exact fun _ _ _ h => h) (Or.inl ⟨by rfl, ?_⟩) (by assumption) ?_; rotate_left 1; · (intro w hSw; (try dsimp only at hSw); go_simp; (try with_reducible rfl))) | (refine wpAnyH_take (i := 4) (v := undef) (by simp only [List.getElem?_toArray, List.getElem?_cons_succ, List.getElem?_cons_zero]; rfl) (by kernel_rfl) (by kernel_rfl) (by kernel_rfl) (by exact fun _ _ _ h => h) (Or.inr ⟨by rfl, rfl⟩) (by assumption) ?_)); (try simp only [Act.put, List.setIfInBounds_toArray, List.set_cons_zero, List.set_cons_succ]))
  (refine wpAnyH_ready (rs := [2]) (by kernel_rfl) (by simp) ?_; refine AllReadyH.cons (by simp only [List.getElem?_toArray, List.getElem?_cons_succ, List.getElem?_cons_zero]; rfl) (fun K hK => ?_) AllReadyH.nil; go_simp; go_at_call 51; refine (HKW.out _).mono ?_; rintro e w5 ⟨rfl, hb4⟩; (first | have HBN := Lib.hid (HBL.out.trans ((below_undrew2 hb4).mono HBL.out.size)) | have HBN := Lib.hid (HBL.out.trans (hb4.mono HBL.out.size))); replace HBL := HBN; clear HBN; refine hK.out _ _ (⟨cell_later hb4 hHeld.1, cell_later hb4 hHeld.2.1, cell_later hb4 hHeld.2.2.1, cell_later hb4 hHeld.2.2.2.1, cell_later hb4 hHeld.2.2.2.2.1, cell_later hb4 hHeld.2.2.2.2.2.1, cell_later hb4 hHeld.2.2.2.2.2.2.1, cell_later hb4 hHeld.2.2.2.2.2.2.2.1, cell_later hb4 hHeld.2.2.2.2.2.2.2.2.1, cell_later hb4 hHeld.2.2.2.2.2.2.2.2.2.1, cell_later hb4 hHeld.2.2.2.2.2.2.2.2.2.2.1, cell_later hb4 hHeld.2.2.2.2.2.2.2.2.2.2.2⟩) (fun hHeld => ?_); clear hK K; (try simp only [Act.put, List.setIfInBounds_toArray, List.set_cons_zero, List.set_cons_succ]))
  (refine wpAnyH_ready (rs := [5]) (by kernel_rfl) (by simp) ?_; refine AllReadyH.cons (by simp only [List.getElem?_toArray, List.getElem?_cons_succ, List.getElem?_cons_zero]; rfl) (fun K hK => ?_) AllReadyH.nil; go_simp; go_at_call 51; refine (HSW.out _).mono ?_; rintro e w5 ⟨rfl, hb4⟩; (first | have HBN := Lib.hid (HBL.out.trans ((below_undrew2 hb4).mono HBL.out.size)) | have HBN := Lib.hid (HBL.out.trans (hb4.mono HBL.out.size))); replace HBL := HBN; clear HBN; refine hK.out _ _ (⟨cell_later hb4 hHeld.1, cell_later hb4 hHeld.2.1, cell_later hb4 hHeld.2.2.1, cell_later hb4 hHeld.2.2.2.1, cell_later hb4 hHeld.2.2.2.2.1, cell_later hb4 hHeld.2.2.2.2.2.1, cell_later hb4 hHeld.2.2.2.2.2.2.1, cell_later hb4 hHeld.2.2.2.2.2.2.2.1, cell_later hb4 hHeld.2.2.2.2.2.2.2.2.1, cell_later hb4 hHeld.2.2.2.2.2.2.2.2.2.1, cell_later hb4 hHeld.2.2.2.2.2.2.2.2.2.2.1, cell_later hb4 hHeld.2.2.2.2.2.2.2.2.2.2.2⟩) (fun hHeld => ?_); clear hK K; (try simp only [Act.put, List.setIfInBounds_toArray, List.set_cons_zero, List.set_cons_succ]))
  ((first | (refine wpAnyH_take (i := 6) (v := ?_) (by simp only [List.getElem?_toArray, List.getElem?_cons_succ, List.getElem?_cons_zero]; rfl) (by kernel_rfl) (by kernel_rfl) (by kernel_rfl) (by exact fun _ _ _ h => h) (Or.inl ⟨by rfl, ?_⟩) (by assumption) ?_; rotate_left 1; · (intro w hSw; (try dsimp only at hSw); go_simp; (try with_reducible rfl))) | (refine wpAnyH_take (i := 6) (v := undef) (by simp only [List.getElem?_toArray, List.getElem?_cons_succ, List.getElem?_cons_zero]; rfl) (by kernel_rfl) (by kernel_rfl) (by kernel_rfl) (by exact fun _ _ _ h => h) (Or.inr ⟨by rfl, rfl⟩) (by assumption) ?_)); (try simp only [Act.put, List.setIfInBounds_toArray, List.set_cons_zero, List.set_cons_succ]))
  ((first | (refine wpAnyH_take (i := 7) (v := ?_) (by simp only [List.getElem?_toArray, List.getElem?_cons_succ, List.getElem?_cons_zero]; rfl) (by kernel_rfl) (by kernel_rfl) (by kernel_rfl) (by exact fun _ _ _ h => h) (Or.inl ⟨by rfl, ?_⟩) (by assumption) ?_; rotate_left 1; · (intro w hSw; (try dsimp only at hSw); go_simp; (try with_reducible rfl))) | (refine wpAnyH_take (i := 7) (v := undef) (by simp only [List.getElem?_toArray, List.getElem?_cons_succ, List.getElem?_cons_zero]; rfl) (by kernel_rfl) (by kernel_rfl) (by kernel_rfl) (by exact fun _ _ _ h => h) (Or.inr ⟨by rfl, rfl⟩) (by assumption) ?_)); (try simp only [Act.put, List.setIfInBounds_toArray, List.set_cons_zero, List.set_cons_succ]))
  (refine wpAnyH_done (by kernel_rfl) ?_ _)
  have hHeld' := hHeld
  obtain ⟨x0, x1, x2, x3, x4, x5, x6, x7, x8, x9, x10, x11⟩ := hHeld'
  go_wp2_with fail
  refine (HNU.out _).mono ?_; rintro e w5 ⟨rfl, hb4⟩; have HBN := Lib.hid (HBL.out.trans (hb4.mono HBL.out.size)); replace HBL := HBN; clear HBN
  replace hHeld := zcells_later hb4 hHeld
  clear hb4 x0 x1 x2 x3 x4 x5 x6 x7 x8 x9 x10 x11
  go_upto_region 6 with fail
  go_cut [8] from 42 to 48 (fun q W => ∃ g2, q = .pointer (some ⟨g2, 0, none⟩) ∧ ZCells z 3 g1 W ∧ W.cell? ⟨g2, 0, none⟩ = some (.string DB) ∧ W.cell? ⟨g2, 1, none⟩ = some (.string DE) ∧ Below w.heap.size w W)
  case first =>
    (refine wp_region_held_drew (S := (fun W => W.cell? ⟨g1, 0, none⟩ = some (.int .i64 3) ∧ W.cell? ⟨g1, 1, none⟩ = some (.string z.kind) ∧ W.cell? ⟨g1, 2, none⟩ = some (.string z.state) ∧ W.cell? ⟨g1, 3, none⟩ = some (.string z.sur) ∧ W.cell? ⟨g1, 4, none⟩ = some (.string z.giv) ∧ W.cell? ⟨g1, 5, none⟩ = some (.string z.num) ∧ W.cell? ⟨g1, 6, none⟩ = some (.string z.nat) ∧ W.cell? ⟨g1, 7, none⟩ = some (.string z.birth) ∧ W.cell? ⟨g1, 8, none⟩ = some (.string z.sex) ∧ W.cell? ⟨g1, 9, none⟩ = some (.string z.exp) ∧ W.cell? ⟨g1, 10, none⟩ = some (.string z.opt) ∧ W.cell? ⟨g1, 11, none⟩ = some (.string z.sec))) (by kernel_rfl) (hHeld) (fun hHeld => ?_))
    ((first | (refine wpAnyH_take (i := 0) (v := ?_) (by simp only [List.getElem?_toArray, List.getElem?_cons_zero]; rfl) (by kernel_rfl) (by kernel_rfl) (by kernel_rfl) (by exact fun _ _ _ h => h) (Or.inl ⟨by rfl, ?_⟩) (by assumption) ?_; rotate_left 1; · (intro w hSw; (try dsimp only at hSw); go_simp; (try with_reducible rfl))) | (refine wpAnyH_take (i := 0) (v := undef) (by simp only [List.getElem?_toArray, List.getElem?_cons_zero]; rfl) (by kernel_rfl) (by kernel_rfl) (by kernel_rfl) (by exact fun _ _ _ h => h) (Or.inr ⟨by rfl, rfl⟩) (by assumption) ?_)); (try simp only [Act.put, List.setIfInBounds_toArray, List.set_cons_zero, List.set_cons_succ]))
    ((first | (refine wpAnyH_take (i := 1) (v := ?_) (by simp only [List.getElem?_toArray, List.getElem?_cons_succ, List.getElem?_cons_zero]; rfl) (by kernel_rfl) (by kernel_rfl) (by kernel_rfl) (by exact fun _ _ _ h => h) (Or.inl ⟨by rfl, ?_⟩) (by assumption) ?_; rotate_left 1; · (intro w hSw; (try dsimp only at hSw); go_simp; (try with_reducible rfl))) | (refine wpAnyH_take (i := 1) (v := undef) (by simp only [List.getElem?_toArray, List.getElem?_cons_succ, List.getElem?_cons_zero]; rfl) (by kernel_rfl) (by kernel_rfl) (by kernel_rfl) (by exact fun _ _ _ h => h) (Or.inr ⟨by rfl, rfl⟩) (by assumption) ?_)); (try simp only [Act.put, List.setIfInBounds_toArray, List.set_cons_zero, List.set_cons_succ]))
    ((first | (refine wpAnyH_take (i := 3) (v := ?_) (by simp only [List.getElem?_toArray, List.getElem?_cons_succ, List.getElem?_cons_zero]; rfl) (by kernel_rfl) (by kernel_rfl) (by kernel_rfl) (by exact fun _ _ _ h => h) (Or.inl ⟨by rfl, ?_⟩) (by assumption) ?_; rotate_left 1; · (intro w hSw; (try dsimp only at hSw); go_simp; (try with_reducible rfl))) | (refine wpAnyH_take (i := 3) (v := undef) (by simp only [List.getElem?_toArray, List.getElem?_cons_succ, List.getElem?_cons_zero]; rfl) (by kernel_rfl) (by kernel_rfl) (by kernel_rfl) (by exact fun _ _ _ h => h) (Or.inr ⟨by rfl, rfl⟩) (by assumption) ?_)); (try simp only [Act.put, List.setIfInBounds_toArray, List.set_cons_zero, List.set_cons_succ]))
    ((first | (refine wpAnyH_take (i := 4) (v := ?_) (by simp only [List.getElem?_toArray, List.getElem?_cons_succ, List.getElem?_cons_zero]; rfl) (by kernel_rfl) (by kernel_rfl) (by kernel_rfl) (by exact fun _ _ _ h => h) (Or.inl ⟨by rfl, ?_⟩) (by assumption) ?_; rotate_left 1; · (intro w hSw; (try dsimp only at hSw); go_simp; (try with_reducible rfl))) | (refine wpAnyH_take (i := 4) (v := undef) (by simp only [List.getElem?_toArray, List.getElem?_cons_succ, List.getElem?_cons_zero]; rfl) (by kernel_rfl) (by kernel_rfl) (by kernel_rfl) (by exact fun _ _ _ h => h) (Or.inr ⟨by rfl, rfl⟩) (by assumption) ?_)); (try simp only [Act.put, List.setIfInBounds_toArray, List.set_cons_zero, List.set_cons_succ]))
    refine wpAnyH_ready (rs := [2, 7]) (by kernel_rfl) (by simp) ?_
    refine AllReadyH.cons (by simp only [List.getElem?_toArray, List.getElem?_cons_succ, List.getElem?_cons_zero]; rfl) (fun K hK => ?_) ?_
    · (go_simp; go_at_call 53; refine (HDB.out _).mono ?_; rintro e w5 ⟨rfl, hb4⟩; (first | have HBN := Lib.hid (HBL.out.trans ((below_undrew2 hb4).mono HBL.out.size)) | have HBN := Lib.hid (HBL.out.trans (hb4.mono HBL.out.size))); replace HBL := HBN; clear HBN)
      (refine hK.out _ _ (⟨cell_later hb4 hHeld.1, cell_later hb4 hHeld.2.1, cell_later hb4 hHeld.2.2.1, cell_later hb4 hHeld.2.2.2.1, cell_later hb4 hHeld.2.2.2.2.1, cell_later hb4 hHeld.2.2.2.2.2.1, cell_later hb4 hHeld.2.2.2.2.2.2.1, cell_later hb4 hHeld.2.2.2.2.2.2.2.1, cell_later hb4 hHeld.2.2.2.2.2.2.2.2.1, cell_later hb4 hHeld.2.2.2.2.2.2.2.2.2.1, cell_later hb4 hHeld.2.2.2.2.2.2.2.2.2.2.1, cell_later hb4 hHeld.2.2.2.2.2.2.2.2.2.2.2⟩) (fun hHeld => ?_); clear hK K; (try simp only [Act.put, List.setIfInBounds_toArray, List.set_cons_zero, List.set_cons_succ]))
      refine wpAnyH_ready (rs := [5, 7]) (by kernel_rfl) (by simp) ?_
      refine AllReadyH.cons (by simp only [List.getElem?_toArray, List.getElem?_cons_succ, List.getElem?_cons_zero]; rfl) (fun K hK => ?_) ?_
      · (go_simp; go_at_call 53; refine (HDE.out _).mono ?_; rintro e w5 ⟨rfl, hb4⟩; (first | have HBN := Lib.hid (HBL.out.trans ((below_undrew2 hb4).mono HBL.out.size)) | have HBN := Lib.hid (HBL.out.trans (hb4.mono HBL.out.size))); replace HBL := HBN; clear HBN)
        (refine hK.out _ _ (⟨cell_later hb4 hHeld.1, cell_later hb4 hHeld.2.1, cell_later hb4 hHeld.2.2.1, cell_later hb4 hHeld.2.2.2.1, cell_later hb4 hHeld.2.2.2.2.1, cell_later hb4 hHeld.2.2.2.2.2.1, cell_later hb4 hHeld.2.2.2.2.2.2.1, cell_later hb4 hHeld.2.2.2.2.2.2.2.1, cell_later hb4 hHeld.2.2.2.2.2.2.2.2.1, cell_later hb4 hHeld.2.2.2.2.2.2.2.2.2.1, cell_later hb4 hHeld.2.2.2.2.2.2.2.2.2.2.1, cell_later hb4 hHeld.2.2.2.2.2.2.2.2.2.2.2⟩) (fun hHeld => ?_); clear hK K; (try simp only [Act.put, List.setIfInBounds_toArray, List.set_cons_zero, List.set_cons_succ]))
        ((first | (refine wpAnyH_take (i := 6) (v := ?_) (by simp only [List.getElem?_toArray, List.getElem?_cons_succ, List.getElem?_cons_zero]; rfl) (by kernel_rfl) (by kernel_rfl) (by kernel_rfl) (by exact fun _ _ _ h => h) (Or.inl ⟨by rfl, ?_⟩) (by assumption) ?_; rotate_left 1; · (intro w hSw; (try dsimp only at hSw); go_simp; (try with_reducible rfl))) | (refine wpAnyH_take (i := 6) (v := undef) (by simp only [List.getElem?_toArray, List.getElem?_cons_succ, List.getElem?_cons_zero]; rfl) (by kernel_rfl) (by kernel_rfl) (by kernel_rfl) (by exact fun _ _ _ h => h) (Or.inr ⟨by rfl, rfl⟩) (by assumption) ?_)); (try simp only [Act.put, List.setIfInBounds_toArray, List.set_cons_zero, List.set_cons_succ]))
        refine wpAnyH_ready (rs := [7]) (by kernel_rfl) (by simp) ?_
        refine AllReadyH.cons (by simp only [List.getElem?_toArray, List.getElem?_cons_succ, List.getElem?_cons_zero]; rfl) (fun K hK => ?_) ?_
        · (go_simp; have hba := below_alloc1 w5 (.cells #[.string ⟨#[]⟩, .string ⟨#[]⟩] 82); have hnew := heap_alloc_new w5 (.cells #[.string ⟨#[]⟩, .string ⟨#[]⟩] 82); have hsz5 := size_alloc1 w5 (.cells #[.string ⟨#[]⟩, .string ⟨#[]⟩] 82); have HOL := HBL; have HBN := Lib.hid (HBL.out.trans (hba.mono HBL.out.size)); replace HBL := HBN; clear HBN; generalize w5.alloc (.cells #[.string ⟨#[]⟩, .string ⟨#[]⟩] 82) = w6 at hba hnew hsz5 HBL ⊢; obtain ⟨g2, hg2⟩ : ∃ q, w5.heap.size = q := ⟨_, rfl⟩; have hgl : g1 < g2 := hg2 ▸ zcells_lt hHeld; have hgw : w.heap.size ≤ g2 := hg2 ▸ HOL.out.size; have hg6 : g2 < w6.heap.size := (by omega); rw [hg2] at hnew ⊢)
          (refine hK.out _ _ ((show ZCells z 3 g1 w6 from zcells_later (w := w5) (w' := w6) hba hHeld)) (fun hHeld => ?_); clear hK K; (try simp only [Act.put, List.setIfInBounds_toArray, List.set_cons_zero, List.set_cons_succ]))
          have hrow := hnew
          have y0 := cell_of_row w6 g2 0 _ _ _ hrow; have y1 := cell_of_row w6 g2 1 _ _ _ hrow; have f0 := frozen_of_row w6 g2 0 _ _ hrow; have f1 := frozen_of_row w6 g2 1 _ _ hrow
          have hZ : ZCells z 3 g1 w6 := hHeld
          have HPO := Lib.hid (days_done DB DE hZ hgl hgw hrow HBL.out)
          simp only [List.getElem?_toArray, List.getElem?_cons_zero, List.getElem?_cons_succ] at y0 y1
          refine wpAnyH_ready (rs := [8]) (by kernel_rfl) (by simp) ?_
          refine AllReadyH.cons (by simp only [List.getElem?_toArray, List.getElem?_cons_succ, List.getElem?_cons_zero]; rfl) (fun K hK => ?_) AllReadyH.nil
          go_simp
          refine hK.out _ _ HPO.out.1 (fun hHeld => ?_)
          clear hK K
          (try simp only [Act.put, List.setIfInBounds_toArray, List.set_cons_zero, List.set_cons_succ])
          (refine wpAnyH_done (by kernel_rfl) ?_ _)
          go_wp2_with fail
          go_meet
          exact ⟨g2, rfl, HPO.out⟩
        exact AllReadyH.nil
      refine AllReadyH.cons (by simp only [List.getElem?_toArray, List.getElem?_cons_succ, List.getElem?_cons_zero]; rfl) (fun K hK => ?_) ?_
      · (go_simp; have hba := below_alloc1 w5 (.cells #[.string ⟨#[]⟩, .string ⟨#[]⟩] 82); have hnew := heap_alloc_new w5 (.cells #[.string ⟨#[]⟩, .string ⟨#[]⟩] 82); have hsz5 := size_alloc1 w5 (.cells #[.string ⟨#[]⟩, .string ⟨#[]⟩] 82); have HOL := HBL; have HBN := Lib.hid (HBL.out.trans (hba.mono HBL.out.size)); replace HBL := HBN; clear HBN; generalize w5.alloc (.cells #[.string ⟨#[]⟩, .string ⟨#[]⟩] 82) = w6 at hba hnew hsz5 HBL ⊢; obtain ⟨g2, hg2⟩ : ∃ q, w5.heap.size = q := ⟨_, rfl⟩; have hgl : g1 < g2 := hg2 ▸ zcells_lt hHeld; have hgw : w.heap.size ≤ g2 := hg2 ▸ HOL.out.size; have hg6 : g2 < w6.heap.size := (by omega); rw [hg2] at hnew ⊢)
        (refine hK.out _ _ ((show ZCells z 3 g1 w6 from zcells_later (w := w5) (w' := w6) hba hHeld)) (fun hHeld => ?_); clear hK K; (try simp only [Act.put, List.setIfInBounds_toArray, List.set_cons_zero, List.set_cons_succ]))
        refine wpAnyH_ready (rs := [5]) (by kernel_rfl) (by simp) ?_
        refine AllReadyH.cons (by simp only [List.getElem?_toArray, List.getElem?_cons_succ, List.getElem?_cons_zero]; rfl) (fun K hK => ?_) ?_
        · (go_simp; go_at_call 53; refine (HDE.out _).mono ?_; rintro e w5 ⟨rfl, hb4⟩; (first | have HBN := Lib.hid (HBL.out.trans ((below_undrew2 hb4).mono HBL.out.size)) | have HBN := Lib.hid (HBL.out.trans (hb4.mono HBL.out.size))); replace HBL := HBN; clear HBN)
          (refine hK.out _ _ (⟨cell_later hb4 hHeld.1, cell_later hb4 hHeld.2.1, cell_later hb4 hHeld.2.2.1, cell_later hb4 hHeld.2.2.2.1, cell_later hb4 hHeld.2.2.2.2.1, cell_later hb4 hHeld.2.2.2.2.2.1, cell_later hb4 hHeld.2.2.2.2.2.2.1, cell_later hb4 hHeld.2.2.2.2.2.2.2.1, cell_later hb4 hHeld.2.2.2.2.2.2.2.2.1, cell_later hb4 hHeld.2.2.2.2.2.2.2.2.2.1, cell_later hb4 hHeld.2.2.2.2.2.2.2.2.2.2.1, cell_later hb4 hHeld.2.2.2.2.2.2.2.2.2.2.2⟩) (fun hHeld => ?_); clear hK K; (try simp only [Act.put, List.setIfInBounds_toArray, List.set_cons_zero, List.set_cons_succ]))
          ((first | (refine wpAnyH_take (i := 6) (v := ?_) (by simp only [List.getElem?_toArray, List.getElem?_cons_succ, List.getElem?_cons_zero]; rfl) (by kernel_rfl) (by kernel_rfl) (by kernel_rfl) (by exact fun _ _ _ h => h) (Or.inl ⟨by rfl, ?_⟩) (by assumption) ?_; rotate_left 1; · (intro w hSw; (try dsimp only at hSw); go_simp; (try with_reducible rfl))) | (refine wpAnyH_take (i := 6) (v := undef) (by simp only [List.getElem?_toArray, List.getElem?_cons_succ, List.getElem?_cons_zero]; rfl) (by kernel_rfl) (by kernel_rfl) (by kernel_rfl) (by exact fun _ _ _ h => h) (Or.inr ⟨by rfl, rfl⟩) (by assumption) ?_)); (try simp only [Act.put, List.setIfInBounds_toArray, List.set_cons_zero, List.set_cons_succ]))
          have hrow := row_later2 hb4 hg6 hnew
          have y0 := cell_of_row w5 g2 0 _ _ _ hrow; have y1 := cell_of_row w5 g2 1 _ _ _ hrow; have f0 := frozen_of_row w5 g2 0 _ _ hrow; have f1 := frozen_of_row w5 g2 1 _ _ hrow
          have hZ : ZCells z 3 g1 w5 := hHeld
          have HPO := Lib.hid (days_done DB DE hZ hgl hgw hrow HBL.out)
          simp only [List.getElem?_toArray, List.getElem?_cons_zero, List.getElem?_cons_succ] at y0 y1
          refine wpAnyH_ready (rs := [8]) (by kernel_rfl) (by simp) ?_
          refine AllReadyH.cons (by simp only [List.getElem?_toArray, List.getElem?_cons_succ, List.getElem?_cons_zero]; rfl) (fun K hK => ?_) AllReadyH.nil
          go_simp
          refine hK.out _ _ HPO.out.1 (fun hHeld => ?_)
          clear hK K
          (try simp only [Act.put, List.setIfInBounds_toArray, List.set_cons_zero, List.set_cons_succ])
          (refine wpAnyH_done (by kernel_rfl) ?_ _)
          go_wp2_with fail
          go_meet
          exact ⟨g2, rfl, HPO.out⟩
        exact AllReadyH.nil
      exact AllReadyH.nil
    refine AllReadyH.cons (by simp only [List.getElem?_toArray, List.getElem?_cons_succ, List.getElem?_cons_zero]; rfl) (fun K hK => ?_) ?_
    · (go_simp; have hba := below_alloc1 w5 (.cells #[.string ⟨#[]⟩, .string ⟨#[]⟩] 82); have hnew := heap_alloc_new w5 (.cells #[.string ⟨#[]⟩, .string ⟨#[]⟩] 82); have hsz5 := size_alloc1 w5 (.cells #[.string ⟨#[]⟩, .string ⟨#[]⟩] 82); have HOL := HBL; have HBN := Lib.hid (HBL.out.trans (hba.mono HBL.out.size)); replace HBL := HBN; clear HBN; generalize w5.alloc (.cells #[.string ⟨#[]⟩, .string ⟨#[]⟩] 82) = w6 at hba hnew hsz5 HBL ⊢; obtain ⟨g2, hg2⟩ : ∃ q, w5.heap.size = q := ⟨_, rfl⟩; have hgl : g1 < g2 := hg2 ▸ zcells_lt hHeld; have hgw : w.heap.size ≤ g2 := hg2 ▸ HOL.out.size; have hg6 : g2 < w6.heap.size := (by omega); rw [hg2] at hnew ⊢)
      (refine hK.out _ _ ((show ZCells z 3 g1 w6 from zcells_later (w := w5) (w' := w6) hba hHeld)) (fun hHeld => ?_); clear hK K; (try simp only [Act.put, List.setIfInBounds_toArray, List.set_cons_zero, List.set_cons_succ]))
      refine wpAnyH_ready (rs := [2]) (by kernel_rfl) (by simp) ?_
      refine AllReadyH.cons (by simp only [List.getElem?_toArray, List.getElem?_cons_succ, List.getElem?_cons_zero]; rfl) (fun K hK => ?_) ?_
      · (go_simp; go_at_call 53; refine (HDB.out _).mono ?_; rintro e w5 ⟨rfl, hb4⟩; (first | have HBN := Lib.hid (HBL.out.trans ((below_undrew2 hb4).mono HBL.out.size)) | have HBN := Lib.hid (HBL.out.trans (hb4.mono HBL.out.size))); replace HBL := HBN; clear HBN)
        (refine hK.out _ _ (⟨cell_later hb4 hHeld.1, cell_later hb4 hHeld.2.1, cell_later hb4 hHeld.2.2.1, cell_later hb4 hHeld.2.2.2.1, cell_later hb4 hHeld.2.2.2.2.1, cell_later hb4 hHeld.2.2.2.2.2.1, cell_later hb4 hHeld.2.2.2.2.2.2.1, cell_later hb4 hHeld.2.2.2.2.2.2.2.1, cell_later hb4 hHeld.2.2.2.2.2.2.2.2.1, cell_later hb4 hHeld.2.2.2.2.2.2.2.2.2.1, cell_later hb4 hHeld.2.2.2.2.2.2.2.2.2.2.1, cell_later hb4 hHeld.2.2.2.2.2.2.2.2.2.2.2⟩) (fun hHeld => ?_); clear hK K; (try simp only [Act.put, List.setIfInBounds_toArray, List.set_cons_zero, List.set_cons_succ]))
        have hg6' := Nat.lt_of_lt_of_le hg6 hb4.size; replace hnew := row_later2 hb4 hg6 hnew; replace hg6 := hg6'
        refine wpAnyH_ready (rs := [5]) (by kernel_rfl) (by simp) ?_
        refine AllReadyH.cons (by simp only [List.getElem?_toArray, List.getElem?_cons_succ, List.getElem?_cons_zero]; rfl) (fun K hK => ?_) ?_
        · (go_simp; go_at_call 53; refine (HDE.out _).mono ?_; rintro e w5 ⟨rfl, hb4⟩; (first | have HBN := Lib.hid (HBL.out.trans ((below_undrew2 hb4).mono HBL.out.size)) | have HBN := Lib.hid (HBL.out.trans (hb4.mono HBL.out.size))); replace HBL := HBN; clear HBN)
          (refine hK.out _ _ (⟨cell_later hb4 hHeld.1, cell_later hb4 hHeld.2.1, cell_later hb4 hHeld.2.2.1, cell_later hb4 hHeld.2.2.2.1, cell_later hb4 hHeld.2.2.2.2.1, cell_later hb4 hHeld.2.2.2.2.2.1, cell_later hb4 hHeld.2.2.2.2.2.2.1, cell_later hb4 hHeld.2.2.2.2.2.2.2.1, cell_later hb4 hHeld.2.2.2.2.2.2.2.2.1, cell_later hb4 hHeld.2.2.2.2.2.2.2.2.2.1, cell_later hb4 hHeld.2.2.2.2.2.2.2.2.2.2.1, cell_later hb4 hHeld.2.2.2.2.2.2.2.2.2.2.2⟩) (fun hHeld => ?_); clear hK K; (try simp only [Act.put, List.setIfInBounds_toArray, List.set_cons_zero, List.set_cons_succ]))
          ((first | (refine wpAnyH_take (i := 6) (v := ?_) (by simp only [List.getElem?_toArray, List.getElem?_cons_succ, List.getElem?_cons_zero]; rfl) (by kernel_rfl) (by kernel_rfl) (by kernel_rfl) (by exact fun _ _ _ h => h) (Or.inl ⟨by rfl, ?_⟩) (by assumption) ?_; rotate_left 1; · (intro w hSw; (try dsimp only at hSw); go_simp; (try with_reducible rfl))) | (refine wpAnyH_take (i := 6) (v := undef) (by simp only [List.getElem?_toArray, List.getElem?_cons_succ, List.getElem?_cons_zero]; rfl) (by kernel_rfl) (by kernel_rfl) (by kernel_rfl) (by exact fun _ _ _ h => h) (Or.inr ⟨by rfl, rfl⟩) (by assumption) ?_)); (try simp only [Act.put, List.setIfInBounds_toArray, List.set_cons_zero, List.set_cons_succ]))
          have hrow := row_later2 hb4 hg6 hnew
          have y0 := cell_of_row w5 g2 0 _ _ _ hrow; have y1 := cell_of_row w5 g2 1 _ _ _ hrow; have f0 := frozen_of_row w5 g2 0 _ _ hrow; have f1 := frozen_of_row w5 g2 1 _ _ hrow
          have hZ : ZCells z 3 g1 w5 := hHeld
          have HPO := Lib.hid (days_done DB DE hZ hgl hgw hrow HBL.out)
          simp only [List.getElem?_toArray, List.getElem?_cons_zero, List.getElem?_cons_succ] at y0 y1
          refine wpAnyH_ready (rs := [8]) (by kernel_rfl) (by simp) ?_
          refine AllReadyH.cons (by simp only [List.getElem?_toArray, List.getElem?_cons_succ, List.getElem?_cons_zero]; rfl) (fun K hK => ?_) AllReadyH.nil
          go_simp
          refine hK.out _ _ HPO.out.1 (fun hHeld => ?_)
          clear hK K
          (try simp only [Act.put, List.setIfInBounds_toArray, List.set_cons_zero, List.set_cons_succ])
          (refine wpAnyH_done (by kernel_rfl) ?_ _)
          go_wp2_with fail
          go_meet
          exact ⟨g2, rfl, HPO.out⟩
        exact AllReadyH.nil
      exact AllReadyH.nil
    exact AllReadyH.nil
  case rest =>
    obtain ⟨g2, rfl, hz, hd0, hd1, hbl⟩ := hcut
    have HBL := Lib.hid hbl
    have hHeld : ZDays z 3 g1 g2 DB DE wc := zdays_mk hz hd0 hd1
    clear hz hd0 hd1 hbl HDB HDE HKW HSW HNU
    have hH' := hHeld
    obtain ⟨x0, x1, x2, x3, x4, x5, x6, x7, x8, x9, x10, x11, x12, x13⟩ := hH'
    go_wp2_with fail
    refine (HNW.out _).mono ?_; rintro e w5 ⟨rfl, hb4⟩; have HBN := Lib.hid (HBL.out.trans (hb4.mono HBL.out.size)); replace HBL := HBN; clear HBN
    replace hHeld := zdays_later hb4 hHeld
    clear hb4 x0 x1 x2 x3 x4 x5 x6 x7 x8 x9 x10 x11 x12 x13
    have hH' := hHeld
    obtain ⟨x0, x1, x2, x3, x4, x5, x6, x7, x8, x9, x10, x11, x12, x13⟩ := hH'
    go_wp2_with fail
    refine (HNA.out _).mono ?_; rintro e w5 ⟨rfl, hb4⟩; have HBN := Lib.hid (HBL.out.trans (hb4.mono HBL.out.size)); replace HBL := HBN; clear HBN
    replace hHeld := zdays_later hb4 hHeld
    clear hb4 x0 x1 x2 x3 x4 x5 x6 x7 x8 x9 x10 x11 x12 x13
    clear HNW HNA
    have hOO : ∃ q : ByteArray, (if z.opt.size = 0 then (⟨#[60]⟩ : ByteArray) else Opt.digS (Zn.wS z.opt 14)) = q := ⟨_, rfl⟩
    obtain ⟨OO, hOO⟩ := hOO
    have zOO : OO.size ≤ 1 := by rw [← hOO]; split <;> first | decide | exact digS_one _
    have E_OO := Lib.hid hOO
    clear hOO
    have HOW := Lib.hid (fun W => rwideS z.opt 14 W (by omega))
    obtain ⟨OW, hOW⟩ : ∃ q : ByteArray, Zn.wS z.opt 14 = q := ⟨_, rfl⟩
    rw [hOW] at HOW E_OO
    have zOW : 14 ≤ OW.size ∧ OW.size ≤ 14 := eq2 (by rw [← hOW]; exact Zn.wS_size (HGD.out.opt14 HFM.out))
    have E_OW := Lib.hid hOW
    clear hOW
    have hH' := hHeld
    obtain ⟨x0, x1, x2, x3, x4, x5, x6, x7, x8, x9, x10, x11, x12, x13⟩ := hH'
    go_upto_if 154 with fail
    go_cut [20] from 152 to 161 (fun q W => q = .string OO ∧ ZDays z 3 g1 g2 DB DE W ∧ Below w.heap.size w W)
    case first =>
      by_cases ho : z.opt.size = 0
      · obtain ⟨e2, e3, e4⟩ := (empty_is2 z.opt).1 ho
        have HO := Lib.hid ho
        rw [e3]
        clear ho e2 e3 e4
        go_wp2_with fail
        go_meet
        exact ⟨by rw [← E_OO.out, if_pos HO.out], hHeld, HBL.out⟩
      · obtain ⟨e2, e3, e4⟩ := (empty_is2 z.opt).2 ho
        have HO := Lib.hid ho
        rw [e3]
        clear ho e2 e3 e4
        go_wp2_with fail
        refine (HOW.out _).mono ?_; rintro e w5 ⟨rfl, hb4⟩; have HBN := Lib.hid (HBL.out.trans (hb4.mono HBL.out.size)); replace HBL := HBN; clear HBN
        replace hHeld := zdays_later hb4 hHeld
        clear hb4 x0 x1 x2 x3 x4 x5 x6 x7 x8 x9 x10 x11 x12 x13
        have HDO := Lib.hid (fun W => rdigit OW W (by omega))
        go_wp2_with fail
        refine (HDO.out _).mono ?_; rintro e w5 ⟨rfl, hb4⟩; have HBN := Lib.hid (HBL.out.trans (hb4.mono HBL.out.size)); replace HBL := HBN; clear HBN
        replace hHeld := zdays_later hb4 hHeld
        clear hb4
        have e5 : Opt.digS OW = OO := by rw [← E_OO.out, if_neg HO.out]
        rw [e5]
        clear e5
        go_wp2_with fail
        go_meet
        exact ⟨rfl, hHeld, HBL.out⟩
    case rest =>
    obtain ⟨rfl, hHeld, hbl⟩ := hcut
    have HBL := Lib.hid hbl
    clear hbl
    have s2 : ¬ (9223372036854775807 < NU.size + NW.size) := by omega
    have s3 : ¬ (9223372036854775807 < NU.size + NW.size + DB.size) := by omega
    have s4 : ¬ (9223372036854775807 < NU.size + NW.size + DB.size + z.sex.size) := by omega
    have s5 : ¬ (9223372036854775807 < NU.size + NW.size + DB.size + z.sex.size + DE.size) := by omega
    have s6 : ¬ (9223372036854775807 < NU.size + NW.size + DB.size + z.sex.size + DE.size + OW.size) := by omega
    have s7 : ¬ (9223372036854775807 < NU.size + NW.size + DB.size + z.sex.size + DE.size + OW.size + OO.size) := by omega
    go_upto_region 23 with fail
    (refine wp_region_held_drew (S := (fun W => W.cell? ⟨g1, 0, none⟩ = some (.int .i64 3) ∧ W.cell? ⟨g1, 1, none⟩ = some (.string z.kind) ∧ W.cell? ⟨g1, 2, none⟩ = some (.string z.state) ∧ W.cell? ⟨g1, 3, none⟩ = some (.string z.sur) ∧ W.cell? ⟨g1, 4, none⟩ = some (.string z.giv) ∧ W.cell? ⟨g1, 5, none⟩ = some (.string z.num) ∧ W.cell? ⟨g1, 6, none⟩ = some (.string z.nat) ∧ W.cell? ⟨g1, 7, none⟩ = some (.string z.birth) ∧ W.cell? ⟨g1, 8, none⟩ = some (.string z.sex) ∧ W.cell? ⟨g1, 9, none⟩ = some (.string z.exp) ∧ W.cell? ⟨g1, 10, none⟩ = some (.string z.opt) ∧ W.cell? ⟨g1, 11, none⟩ = some (.string z.sec) ∧ W.cell? ⟨g2, 0, none⟩ = some (.string DB) ∧ W.cell? ⟨g2, 1, none⟩ = some (.string DE))) (by kernel_rfl) (hHeld) (fun hHeld => ?_))
    ((first | (refine wpAnyH_take (i := 0) (v := ?_) (by simp only [List.getElem?_toArray, List.getElem?_cons_zero]; rfl) (by kernel_rfl) (by kernel_rfl) (by kernel_rfl) (by exact fun _ _ _ h => h) (Or.inl ⟨by rfl, ?_⟩) (by assumption) ?_; rotate_left 1; · (intro w hSw; (try dsimp only at hSw); go_simp; (try with_reducible rfl))) | (refine wpAnyH_take (i := 0) (v := undef) (by simp only [List.getElem?_toArray, List.getElem?_cons_zero]; rfl) (by kernel_rfl) (by kernel_rfl) (by kernel_rfl) (by exact fun _ _ _ h => h) (Or.inr ⟨by rfl, rfl⟩) (by assumption) ?_)); (try simp only [Act.put, List.setIfInBounds_toArray, List.set_cons_zero, List.set_cons_succ]))
    ((first | (refine wpAnyH_take (i := 1) (v := ?_) (by simp only [List.getElem?_toArray, List.getElem?_cons_succ, List.getElem?_cons_zero]; rfl) (by kernel_rfl) (by kernel_rfl) (by kernel_rfl) (by exact fun _ _ _ h => h) (Or.inl ⟨by rfl, ?_⟩) (by assumption) ?_; rotate_left 1; · (intro w hSw; (try dsimp only at hSw); go_simp; (try with_reducible rfl))) | (refine wpAnyH_take (i := 1) (v := undef) (by simp only [List.getElem?_toArray, List.getElem?_cons_succ, List.getElem?_cons_zero]; rfl) (by kernel_rfl) (by kernel_rfl) (by kernel_rfl) (by exact fun _ _ _ h => h) (Or.inr ⟨by rfl, rfl⟩) (by assumption) ?_)); (try simp only [Act.put, List.setIfInBounds_toArray, List.set_cons_zero, List.set_cons_succ]))
    ((first | (refine wpAnyH_take (i := 2) (v := ?_) (by simp only [List.getElem?_toArray, List.getElem?_cons_succ, List.getElem?_cons_zero]; rfl) (by kernel_rfl) (by kernel_rfl) (by kernel_rfl) (by exact fun _ _ _ h => h) (Or.inl ⟨by rfl, ?_⟩) (by assumption) ?_; rotate_left 1; · (intro w hSw; (try dsimp only at hSw); go_simp; (try with_reducible rfl))) | (refine wpAnyH_take (i := 2) (v := undef) (by simp only [List.getElem?_toArray, List.getElem?_cons_succ, List.getElem?_cons_zero]; rfl) (by kernel_rfl) (by kernel_rfl) (by kernel_rfl) (by exact fun _ _ _ h => h) (Or.inr ⟨by rfl, rfl⟩) (by assumption) ?_)); (try simp only [Act.put, List.setIfInBounds_toArray, List.set_cons_zero, List.set_cons_succ]))
    ((first | (refine wpAnyH_take (i := 3) (v := ?_) (by simp only [List.getElem?_toArray, List.getElem?_cons_succ, List.getElem?_cons_zero]; rfl) (by kernel_rfl) (by kernel_rfl) (by kernel_rfl) (by exact fun _ _ _ h => h) (Or.inl ⟨by rfl, ?_⟩) (by assumption) ?_; rotate_left 1; · (intro w hSw; (try dsimp only at hSw); go_simp; (try with_reducible rfl))) | (refine wpAnyH_take (i := 3) (v := undef) (by simp only [List.getElem?_toArray, List.getElem?_cons_succ, List.getElem?_cons_zero]; rfl) (by kernel_rfl) (by kernel_rfl) (by kernel_rfl) (by exact fun _ _ _ h => h) (Or.inr ⟨by rfl, rfl⟩) (by assumption) ?_)); (try simp only [Act.put, List.setIfInBounds_toArray, List.set_cons_zero, List.set_cons_succ]))
    ((first | (refine wpAnyH_take (i := 4) (v := ?_) (by simp only [List.getElem?_toArray, List.getElem?_cons_succ, List.getElem?_cons_zero]; rfl) (by kernel_rfl) (by kernel_rfl) (by kernel_rfl) (by exact fun _ _ _ h => h) (Or.inl ⟨by rfl, ?_⟩) (by assumption) ?_; rotate_left 1; · (intro w hSw; (try dsimp only at hSw); go_simp; (try with_reducible rfl))) | (refine wpAnyH_take (i := 4) (v := undef) (by simp only [List.getElem?_toArray, List.getElem?_cons_succ, List.getElem?_cons_zero]; rfl) (by kernel_rfl) (by kernel_rfl) (by kernel_rfl) (by exact fun _ _ _ h => h) (Or.inr ⟨by rfl, rfl⟩) (by assumption) ?_)); (try simp only [Act.put, List.setIfInBounds_toArray, List.set_cons_zero, List.set_cons_succ]))
    ((first | (refine wpAnyH_take (i := 5) (v := ?_) (by simp only [List.getElem?_toArray, List.getElem?_cons_succ, List.getElem?_cons_zero]; rfl) (by kernel_rfl) (by kernel_rfl) (by kernel_rfl) (by exact fun _ _ _ h => h) (Or.inl ⟨by rfl, ?_⟩) (by assumption) ?_; rotate_left 1; · (intro w hSw; (try dsimp only at hSw); go_simp; (try with_reducible rfl))) | (refine wpAnyH_take (i := 5) (v := undef) (by simp only [List.getElem?_toArray, List.getElem?_cons_succ, List.getElem?_cons_zero]; rfl) (by kernel_rfl) (by kernel_rfl) (by kernel_rfl) (by exact fun _ _ _ h => h) (Or.inr ⟨by rfl, rfl⟩) (by assumption) ?_)); (try simp only [Act.put, List.setIfInBounds_toArray, List.set_cons_zero, List.set_cons_succ]))
    ((first | (refine wpAnyH_take (i := 6) (v := ?_) (by simp only [List.getElem?_toArray, List.getElem?_cons_succ, List.getElem?_cons_zero]; rfl) (by kernel_rfl) (by kernel_rfl) (by kernel_rfl) (by exact fun _ _ _ h => h) (Or.inl ⟨by rfl, ?_⟩) (by assumption) ?_; rotate_left 1; · (intro w hSw; (try dsimp only at hSw); go_simp; (try with_reducible rfl))) | (refine wpAnyH_take (i := 6) (v := undef) (by simp only [List.getElem?_toArray, List.getElem?_cons_succ, List.getElem?_cons_zero]; rfl) (by kernel_rfl) (by kernel_rfl) (by kernel_rfl) (by exact fun _ _ _ h => h) (Or.inr ⟨by rfl, rfl⟩) (by assumption) ?_)); (try simp only [Act.put, List.setIfInBounds_toArray, List.set_cons_zero, List.set_cons_succ]))
    ((first | (refine wpAnyH_take (i := 7) (v := ?_) (by simp only [List.getElem?_toArray, List.getElem?_cons_succ, List.getElem?_cons_zero]; rfl) (by kernel_rfl) (by kernel_rfl) (by kernel_rfl) (by exact fun _ _ _ h => h) (Or.inl ⟨by rfl, ?_⟩) (by assumption) ?_; rotate_left 1; · (intro w hSw; (try dsimp only at hSw); go_simp; (try with_reducible rfl))) | (refine wpAnyH_take (i := 7) (v := undef) (by simp only [List.getElem?_toArray, List.getElem?_cons_succ, List.getElem?_cons_zero]; rfl) (by kernel_rfl) (by kernel_rfl) (by kernel_rfl) (by exact fun _ _ _ h => h) (Or.inr ⟨by rfl, rfl⟩) (by assumption) ?_)); (try simp only [Act.put, List.setIfInBounds_toArray, List.set_cons_zero, List.set_cons_succ]))
    ((first | (refine wpAnyH_take (i := 8) (v := ?_) (by simp only [List.getElem?_toArray, List.getElem?_cons_succ, List.getElem?_cons_zero]; rfl) (by kernel_rfl) (by kernel_rfl) (by kernel_rfl) (by exact fun _ _ _ h => h) (Or.inl ⟨by rfl, ?_⟩) (by assumption) ?_; rotate_left 1; · (intro w hSw; (try dsimp only at hSw); go_simp; (try with_reducible rfl))) | (refine wpAnyH_take (i := 8) (v := undef) (by simp only [List.getElem?_toArray, List.getElem?_cons_succ, List.getElem?_cons_zero]; rfl) (by kernel_rfl) (by kernel_rfl) (by kernel_rfl) (by exact fun _ _ _ h => h) (Or.inr ⟨by rfl, rfl⟩) (by assumption) ?_)); (try simp only [Act.put, List.setIfInBounds_toArray, List.set_cons_zero, List.set_cons_succ]))
    ((first | (refine wpAnyH_take (i := 9) (v := ?_) (by simp only [List.getElem?_toArray, List.getElem?_cons_succ, List.getElem?_cons_zero]; rfl) (by kernel_rfl) (by kernel_rfl) (by kernel_rfl) (by exact fun _ _ _ h => h) (Or.inl ⟨by rfl, ?_⟩) (by assumption) ?_; rotate_left 1; · (intro w hSw; (try dsimp only at hSw); go_simp; (try with_reducible rfl))) | (refine wpAnyH_take (i := 9) (v := undef) (by simp only [List.getElem?_toArray, List.getElem?_cons_succ, List.getElem?_cons_zero]; rfl) (by kernel_rfl) (by kernel_rfl) (by kernel_rfl) (by exact fun _ _ _ h => h) (Or.inr ⟨by rfl, rfl⟩) (by assumption) ?_)); (try simp only [Act.put, List.setIfInBounds_toArray, List.set_cons_zero, List.set_cons_succ]))
    ((first | (refine wpAnyH_take (i := 10) (v := ?_) (by simp only [List.getElem?_toArray, List.getElem?_cons_succ, List.getElem?_cons_zero]; rfl) (by kernel_rfl) (by kernel_rfl) (by kernel_rfl) (by exact fun _ _ _ h => h) (Or.inl ⟨by rfl, ?_⟩) (by assumption) ?_; rotate_left 1; · (intro w hSw; (try dsimp only at hSw); go_simp; (try with_reducible rfl))) | (refine wpAnyH_take (i := 10) (v := undef) (by simp only [List.getElem?_toArray, List.getElem?_cons_succ, List.getElem?_cons_zero]; rfl) (by kernel_rfl) (by kernel_rfl) (by kernel_rfl) (by exact fun _ _ _ h => h) (Or.inr ⟨by rfl, rfl⟩) (by assumption) ?_)); (try simp only [Act.put, List.setIfInBounds_toArray, List.set_cons_zero, List.set_cons_succ]))
    ((first | (refine wpAnyH_take (i := 11) (v := ?_) (by simp only [List.getElem?_toArray, List.getElem?_cons_succ, List.getElem?_cons_zero]; rfl) (by kernel_rfl) (by kernel_rfl) (by kernel_rfl) (by exact fun _ _ _ h => h) (Or.inl ⟨by rfl, ?_⟩) (by assumption) ?_; rotate_left 1; · (intro w hSw; (try dsimp only at hSw); go_simp; (try with_reducible rfl))) | (refine wpAnyH_take (i := 11) (v := undef) (by simp only [List.getElem?_toArray, List.getElem?_cons_succ, List.getElem?_cons_zero]; rfl) (by kernel_rfl) (by kernel_rfl) (by kernel_rfl) (by exact fun _ _ _ h => h) (Or.inr ⟨by rfl, rfl⟩) (by assumption) ?_)); (try simp only [Act.put, List.setIfInBounds_toArray, List.set_cons_zero, List.set_cons_succ]))
    ((first | (refine wpAnyH_take (i := 12) (v := ?_) (by simp only [List.getElem?_toArray, List.getElem?_cons_succ, List.getElem?_cons_zero]; rfl) (by kernel_rfl) (by kernel_rfl) (by kernel_rfl) (by exact fun _ _ _ h => h) (Or.inl ⟨by rfl, ?_⟩) (by assumption) ?_; rotate_left 1; · (intro w hSw; (try dsimp only at hSw); go_simp; (try with_reducible rfl))) | (refine wpAnyH_take (i := 12) (v := undef) (by simp only [List.getElem?_toArray, List.getElem?_cons_succ, List.getElem?_cons_zero]; rfl) (by kernel_rfl) (by kernel_rfl) (by kernel_rfl) (by exact fun _ _ _ h => h) (Or.inr ⟨by rfl, rfl⟩) (by assumption) ?_)); (try simp only [Act.put, List.setIfInBounds_toArray, List.set_cons_zero, List.set_cons_succ]))
    ((first | (refine wpAnyH_take (i := 13) (v := ?_) (by simp only [List.getElem?_toArray, List.getElem?_cons_succ, List.getElem?_cons_zero]; rfl) (by kernel_rfl) (by kernel_rfl) (by kernel_rfl) (by exact fun _ _ _ h => h) (Or.inl ⟨by rfl, ?_⟩) (by assumption) ?_; rotate_left 1; · (intro w hSw; (try dsimp only at hSw); go_simp; (try with_reducible rfl))) | (refine wpAnyH_take (i := 13) (v := undef) (by simp only [List.getElem?_toArray, List.getElem?_cons_succ, List.getElem?_cons_zero]; rfl) (by kernel_rfl) (by kernel_rfl) (by kernel_rfl) (by exact fun _ _ _ h => h) (Or.inr ⟨by rfl, rfl⟩) (by assumption) ?_)); (try simp only [Act.put, List.setIfInBounds_toArray, List.set_cons_zero, List.set_cons_succ]))
    ((first | (refine wpAnyH_take (i := 16) (v := ?_) (by simp only [List.getElem?_toArray, List.getElem?_cons_succ, List.getElem?_cons_zero]; rfl) (by kernel_rfl) (by kernel_rfl) (by kernel_rfl) (by exact fun _ _ _ h => h) (Or.inl ⟨by rfl, ?_⟩) (by assumption) ?_; rotate_left 1; · (intro w hSw; (try dsimp only at hSw); go_simp; (try with_reducible rfl))) | (refine wpAnyH_take (i := 16) (v := undef) (by simp only [List.getElem?_toArray, List.getElem?_cons_succ, List.getElem?_cons_zero]; rfl) (by kernel_rfl) (by kernel_rfl) (by kernel_rfl) (by exact fun _ _ _ h => h) (Or.inr ⟨by rfl, rfl⟩) (by assumption) ?_)); (try simp only [Act.put, List.setIfInBounds_toArray, List.set_cons_zero, List.set_cons_succ]))
    (refine wpAnyH_ready (rs := [14]) (by kernel_rfl) (by simp) ?_; refine AllReadyH.cons (by simp only [List.getElem?_toArray, List.getElem?_cons_succ, List.getElem?_cons_zero]; rfl) (fun K hK => ?_) AllReadyH.nil; go_simp; go_at_call 51; refine (HOW.out _).mono ?_; rintro e w5 ⟨rfl, hb4⟩; (first | have HBN := Lib.hid (HBL.out.trans ((below_undrew2 hb4).mono HBL.out.size)) | have HBN := Lib.hid (HBL.out.trans (hb4.mono HBL.out.size))); replace HBL := HBN; clear HBN; refine hK.out _ _ (⟨cell_later hb4 hHeld.1, cell_later hb4 hHeld.2.1, cell_later hb4 hHeld.2.2.1, cell_later hb4 hHeld.2.2.2.1, cell_later hb4 hHeld.2.2.2.2.1, cell_later hb4 hHeld.2.2.2.2.2.1, cell_later hb4 hHeld.2.2.2.2.2.2.1, cell_later hb4 hHeld.2.2.2.2.2.2.2.1, cell_later hb4 hHeld.2.2.2.2.2.2.2.2.1, cell_later hb4 hHeld.2.2.2.2.2.2.2.2.2.1, cell_later hb4 hHeld.2.2.2.2.2.2.2.2.2.2.1, cell_later hb4 hHeld.2.2.2.2.2.2.2.2.2.2.2.1, cell_later hb4 hHeld.2.2.2.2.2.2.2.2.2.2.2.2.1, cell_later hb4 hHeld.2.2.2.2.2.2.2.2.2.2.2.2.2⟩) (fun hHeld => ?_); clear hK K; (try simp only [Act.put, List.setIfInBounds_toArray, List.set_cons_zero, List.set_cons_succ]))
    ((first | (refine wpAnyH_take (i := 15) (v := ?_) (by simp only [List.getElem?_toArray, List.getElem?_cons_succ, List.getElem?_cons_zero]; rfl) (by kernel_rfl) (by kernel_rfl) (by kernel_rfl) (by exact fun _ _ _ h => h) (Or.inl ⟨by rfl, ?_⟩) (by assumption) ?_; rotate_left 1; · (intro w hSw; (try dsimp only at hSw); go_simp; (try with_reducible rfl))) | (refine wpAnyH_take (i := 15) (v := undef) (by simp only [List.getElem?_toArray, List.getElem?_cons_succ, List.getElem?_cons_zero]; rfl) (by kernel_rfl) (by kernel_rfl) (by kernel_rfl) (by exact fun _ _ _ h => h) (Or.inr ⟨by rfl, rfl⟩) (by assumption) ?_)); (try simp only [Act.put, List.setIfInBounds_toArray, List.set_cons_zero, List.set_cons_succ]))
    ((first | (refine wpAnyH_take (i := 17) (v := ?_) (by simp only [List.getElem?_toArray, List.getElem?_cons_succ, List.getElem?_cons_zero]; rfl) (by kernel_rfl) (by kernel_rfl) (by kernel_rfl) (by exact fun _ _ _ h => h) (Or.inl ⟨by rfl, ?_⟩) (by assumption) ?_; rotate_left 1; · (intro w hSw; (try dsimp only at hSw); go_simp; (try with_reducible rfl))) | (refine wpAnyH_take (i := 17) (v := undef) (by simp only [List.getElem?_toArray, List.getElem?_cons_succ, List.getElem?_cons_zero]; rfl) (by kernel_rfl) (by kernel_rfl) (by kernel_rfl) (by exact fun _ _ _ h => h) (Or.inr ⟨by rfl, rfl⟩) (by assumption) ?_)); (try simp only [Act.put, List.setIfInBounds_toArray, List.set_cons_zero, List.set_cons_succ]))
    ((first | (refine wpAnyH_take (i := 18) (v := ?_) (by simp only [List.getElem?_toArray, List.getElem?_cons_succ, List.getElem?_cons_zero]; rfl) (by kernel_rfl) (by kernel_rfl) (by kernel_rfl) (by exact fun _ _ _ h => h) (Or.inl ⟨by rfl, ?_⟩) (by assumption) ?_; rotate_left 1; · (intro w hSw; (try dsimp only at hSw); go_simp; (try with_reducible rfl))) | (refine wpAnyH_take (i := 18) (v := undef) (by simp only [List.getElem?_toArray, List.getElem?_cons_succ, List.getElem?_cons_zero]; rfl) (by kernel_rfl) (by kernel_rfl) (by kernel_rfl) (by exact fun _ _ _ h => h) (Or.inr ⟨by rfl, rfl⟩) (by assumption) ?_)); (try simp only [Act.put, List.setIfInBounds_toArray, List.set_cons_zero, List.set_cons_succ]))
    (refine wpAnyH_done (by kernel_rfl) ?_ _)
    go_upto_region 24 with fail
    clear s2 s3 s4 s5 s6 s7
    obtain ⟨BB, hBB⟩ : ∃ q : ByteArray, NU ++ NW ++ DB ++ z.sex ++ DE ++ OW ++ OO = q := ⟨_, rfl⟩
    rw [hBB]
    have E_BB := Lib.hid hBB
    clear hBB
    have zBB : 42 + OO.size ≤ BB.size ∧ BB.size ≤ 42 + OO.size := eq2 (by rw [← E_BB.out]; simp only [ByteArray.size_append]; omega)
    have zO1 : 1 ≤ OO.size := by rw [← E_OO.out]; split <;> first | decide | (rw [← E_OW.out]; exact HGD.out.digW 14)
    have i10 : (10 : Int) ≤ (BB.size : Int) := by omega
    have i20 : (20 : Int) ≤ (BB.size : Int) := by omega
    have i43 : (43 : Int) ≤ (BB.size : Int) := by omega
    obtain ⟨P0, hP0⟩ : ∃ q, BB.extract 0 10 = q := ⟨_, rfl⟩
    have zP0 : 10 ≤ P0.size ∧ P0.size ≤ 10 := eq2 (by rw [← hP0, ByteArray.size_extract]; omega)
    obtain ⟨P1, hP1⟩ : ∃ q, BB.extract 13 20 = q := ⟨_, rfl⟩
    have zP1 : 7 ≤ P1.size ∧ P1.size ≤ 7 := eq2 (by rw [← hP1, ByteArray.size_extract]; omega)
    obtain ⟨P2, hP2⟩ : ∃ q, BB.extract 21 43 = q := ⟨_, rfl⟩
    have zP2 : 22 ≤ P2.size ∧ P2.size ≤ 22 := eq2 (by rw [← hP2, ByteArray.size_extract]; omega)
    have HDG := Lib.hid (fun W => rdigit (P0 ++ P1 ++ P2) W (by simp only [ByteArray.size_append]; omega))
    obtain ⟨DG, hDG⟩ : ∃ q : ByteArray, Opt.digS (P0 ++ P1 ++ P2) = q := ⟨_, rfl⟩
    obtain ⟨DGx, hDGx⟩ : ∃ q, Opt.digE (P0 ++ P1 ++ P2) = q := ⟨_, rfl⟩
    rw [hDG, hDGx] at HDG
    have zDG : DG.size ≤ 1 := by rw [← hDG]; exact digS_one _
    have E_DG := Lib.hid hDG
    clear hDG hDGx
    have s2 : ¬ (9223372036854775807 < P0.size + P1.size) := by omega
    have s3 : ¬ (9223372036854775807 < P0.size + P1.size + P2.size) := by omega
    (refine wp_region_held_drew (S := (fun W => W.cell? ⟨g1, 0, none⟩ = some (.int .i64 3) ∧ W.cell? ⟨g1, 1, none⟩ = some (.string z.kind) ∧ W.cell? ⟨g1, 2, none⟩ = some (.string z.state) ∧ W.cell? ⟨g1, 3, none⟩ = some (.string z.sur) ∧ W.cell? ⟨g1, 4, none⟩ = some (.string z.giv) ∧ W.cell? ⟨g1, 5, none⟩ = some (.string z.num) ∧ W.cell? ⟨g1, 6, none⟩ = some (.string z.nat) ∧ W.cell? ⟨g1, 7, none⟩ = some (.string z.birth) ∧ W.cell? ⟨g1, 8, none⟩ = some (.string z.sex) ∧ W.cell? ⟨g1, 9, none⟩ = some (.string z.exp) ∧ W.cell? ⟨g1, 10, none⟩ = some (.string z.opt) ∧ W.cell? ⟨g1, 11, none⟩ = some (.string z.sec) ∧ W.cell? ⟨g2, 0, none⟩ = some (.string DB) ∧ W.cell? ⟨g2, 1, none⟩ = some (.string DE))) (by kernel_rfl) (hHeld) (fun hHeld => ?_))
    ((first | (refine wpAnyH_take (i := 0) (v := ?_) (by simp only [List.getElem?_toArray, List.getElem?_cons_zero]; rfl) (by kernel_rfl) (by kernel_rfl) (by kernel_rfl) (by exact fun _ _ _ h => h) (Or.inl ⟨by rfl, ?_⟩) (by assumption) ?_; rotate_left 1; · (intro w hSw; (try dsimp only at hSw); go_simp; (try with_reducible rfl))) | (refine wpAnyH_take (i := 0) (v := undef) (by simp only [List.getElem?_toArray, List.getElem?_cons_zero]; rfl) (by kernel_rfl) (by kernel_rfl) (by kernel_rfl) (by exact fun _ _ _ h => h) (Or.inr ⟨by rfl, rfl⟩) (by assumption) ?_)); (try simp only [Act.put, List.setIfInBounds_toArray, List.set_cons_zero, List.set_cons_succ]))
    ((first | (refine wpAnyH_take (i := 1) (v := ?_) (by simp only [List.getElem?_toArray, List.getElem?_cons_succ, List.getElem?_cons_zero]; rfl) (by kernel_rfl) (by kernel_rfl) (by kernel_rfl) (by exact fun _ _ _ h => h) (Or.inl ⟨by rfl, ?_⟩) (by assumption) ?_; rotate_left 1; · (intro w hSw; (try dsimp only at hSw); go_simp; (try with_reducible rfl))) | (refine wpAnyH_take (i := 1) (v := undef) (by simp only [List.getElem?_toArray, List.getElem?_cons_succ, List.getElem?_cons_zero]; rfl) (by kernel_rfl) (by kernel_rfl) (by kernel_rfl) (by exact fun _ _ _ h => h) (Or.inr ⟨by rfl, rfl⟩) (by assumption) ?_)); (try simp only [Act.put, List.setIfInBounds_toArray, List.set_cons_zero, List.set_cons_succ]))
    ((first | (refine wpAnyH_take (i := 2) (v := ?_) (by simp only [List.getElem?_toArray, List.getElem?_cons_succ, List.getElem?_cons_zero]; rfl) (by kernel_rfl) (by kernel_rfl) (by kernel_rfl) (by exact fun _ _ _ h => h) (Or.inl ⟨by rfl, ?_⟩) (by assumption) ?_; rotate_left 1; · (intro w hSw; (try dsimp only at hSw); go_simp; (try with_reducible rfl))) | (refine wpAnyH_take (i := 2) (v := undef) (by simp only [List.getElem?_toArray, List.getElem?_cons_succ, List.getElem?_cons_zero]; rfl) (by kernel_rfl) (by kernel_rfl) (by kernel_rfl) (by exact fun _ _ _ h => h) (Or.inr ⟨by rfl, rfl⟩) (by assumption) ?_)); (try simp only [Act.put, List.setIfInBounds_toArray, List.set_cons_zero, List.set_cons_succ]))
    ((first | (refine wpAnyH_take (i := 3) (v := ?_) (by simp only [List.getElem?_toArray, List.getElem?_cons_succ, List.getElem?_cons_zero]; rfl) (by kernel_rfl) (by kernel_rfl) (by kernel_rfl) (by exact fun _ _ _ h => h) (Or.inl ⟨by rfl, ?_⟩) (by assumption) ?_; rotate_left 1; · (intro w hSw; (try dsimp only at hSw); go_simp; (try with_reducible rfl))) | (refine wpAnyH_take (i := 3) (v := undef) (by simp only [List.getElem?_toArray, List.getElem?_cons_succ, List.getElem?_cons_zero]; rfl) (by kernel_rfl) (by kernel_rfl) (by kernel_rfl) (by exact fun _ _ _ h => h) (Or.inr ⟨by rfl, rfl⟩) (by assumption) ?_)); (try simp only [Act.put, List.setIfInBounds_toArray, List.set_cons_zero, List.set_cons_succ]))
    ((first | (refine wpAnyH_take (i := 4) (v := ?_) (by simp only [List.getElem?_toArray, List.getElem?_cons_succ, List.getElem?_cons_zero]; rfl) (by kernel_rfl) (by kernel_rfl) (by kernel_rfl) (by exact fun _ _ _ h => h) (Or.inl ⟨by rfl, ?_⟩) (by assumption) ?_; rotate_left 1; · (intro w hSw; (try dsimp only at hSw); go_simp; (try with_reducible rfl))) | (refine wpAnyH_take (i := 4) (v := undef) (by simp only [List.getElem?_toArray, List.getElem?_cons_succ, List.getElem?_cons_zero]; rfl) (by kernel_rfl) (by kernel_rfl) (by kernel_rfl) (by exact fun _ _ _ h => h) (Or.inr ⟨by rfl, rfl⟩) (by assumption) ?_)); (try simp only [Act.put, List.setIfInBounds_toArray, List.set_cons_zero, List.set_cons_succ]))
    ((first | (refine wpAnyH_take (i := 5) (v := ?_) (by simp only [List.getElem?_toArray, List.getElem?_cons_succ, List.getElem?_cons_zero]; rfl) (by kernel_rfl) (by kernel_rfl) (by kernel_rfl) (by exact fun _ _ _ h => h) (Or.inl ⟨by rfl, ?_⟩) (by assumption) ?_; rotate_left 1; · (intro w hSw; (try dsimp only at hSw); go_simp; (try with_reducible rfl))) | (refine wpAnyH_take (i := 5) (v := undef) (by simp only [List.getElem?_toArray, List.getElem?_cons_succ, List.getElem?_cons_zero]; rfl) (by kernel_rfl) (by kernel_rfl) (by kernel_rfl) (by exact fun _ _ _ h => h) (Or.inr ⟨by rfl, rfl⟩) (by assumption) ?_)); (try simp only [Act.put, List.setIfInBounds_toArray, List.set_cons_zero, List.set_cons_succ]))
    ((first | (refine wpAnyH_take (i := 6) (v := ?_) (by simp only [List.getElem?_toArray, List.getElem?_cons_succ, List.getElem?_cons_zero]; rfl) (by kernel_rfl) (by kernel_rfl) (by kernel_rfl) (by exact fun _ _ _ h => h) (Or.inl ⟨by rfl, ?_⟩) (by assumption) ?_; rotate_left 1; · (intro w hSw; (try dsimp only at hSw); go_simp; (try with_reducible rfl))) | (refine wpAnyH_take (i := 6) (v := undef) (by simp only [List.getElem?_toArray, List.getElem?_cons_succ, List.getElem?_cons_zero]; rfl) (by kernel_rfl) (by kernel_rfl) (by kernel_rfl) (by exact fun _ _ _ h => h) (Or.inr ⟨by rfl, rfl⟩) (by assumption) ?_)); (try simp only [Act.put, List.setIfInBounds_toArray, List.set_cons_zero, List.set_cons_succ]))
    ((first | (refine wpAnyH_take (i := 7) (v := ?_) (by simp only [List.getElem?_toArray, List.getElem?_cons_succ, List.getElem?_cons_zero]; rfl) (by kernel_rfl) (by kernel_rfl) (by kernel_rfl) (by exact fun _ _ _ h => h) (Or.inl ⟨by rfl, ?_⟩) (by assumption) ?_; rotate_left 1; · (intro w hSw; (try dsimp only at hSw); go_simp; (try with_reducible rfl))) | (refine wpAnyH_take (i := 7) (v := undef) (by simp only [List.getElem?_toArray, List.getElem?_cons_succ, List.getElem?_cons_zero]; rfl) (by kernel_rfl) (by kernel_rfl) (by kernel_rfl) (by exact fun _ _ _ h => h) (Or.inr ⟨by rfl, rfl⟩) (by assumption) ?_)); (try simp only [Act.put, List.setIfInBounds_toArray, List.set_cons_zero, List.set_cons_succ]))
    (refine wpAnyH_ready (rs := [8]) (by kernel_rfl) (by simp) ?_; refine AllReadyH.cons (by simp only [List.getElem?_toArray, List.getElem?_cons_succ, List.getElem?_cons_zero]; rfl) (fun K hK => ?_) AllReadyH.nil; go_simp; go_at_call 55; refine (HDG.out _).mono ?_; rintro e w5 ⟨rfl, hb4⟩; (first | have HBN := Lib.hid (HBL.out.trans ((below_undrew2 hb4).mono HBL.out.size)) | have HBN := Lib.hid (HBL.out.trans (hb4.mono HBL.out.size))); replace HBL := HBN; clear HBN; refine hK.out _ _ (⟨cell_later hb4 hHeld.1, cell_later hb4 hHeld.2.1, cell_later hb4 hHeld.2.2.1, cell_later hb4 hHeld.2.2.2.1, cell_later hb4 hHeld.2.2.2.2.1, cell_later hb4 hHeld.2.2.2.2.2.1, cell_later hb4 hHeld.2.2.2.2.2.2.1, cell_later hb4 hHeld.2.2.2.2.2.2.2.1, cell_later hb4 hHeld.2.2.2.2.2.2.2.2.1, cell_later hb4 hHeld.2.2.2.2.2.2.2.2.2.1, cell_later hb4 hHeld.2.2.2.2.2.2.2.2.2.2.1, cell_later hb4 hHeld.2.2.2.2.2.2.2.2.2.2.2.1, cell_later hb4 hHeld.2.2.2.2.2.2.2.2.2.2.2.2.1, cell_later hb4 hHeld.2.2.2.2.2.2.2.2.2.2.2.2.2⟩) (fun hHeld => ?_); clear hK K; (try simp only [Act.put, List.setIfInBounds_toArray, List.set_cons_zero, List.set_cons_succ]))
    ((first | (refine wpAnyH_take (i := 9) (v := ?_) (by simp only [List.getElem?_toArray, List.getElem?_cons_succ, List.getElem?_cons_zero]; rfl) (by kernel_rfl) (by kernel_rfl) (by kernel_rfl) (by exact fun _ _ _ h => h) (Or.inl ⟨by rfl, ?_⟩) (by assumption) ?_; rotate_left 1; · (intro w hSw; (try dsimp only at hSw); go_simp; (try with_reducible rfl))) | (refine wpAnyH_take (i := 9) (v := undef) (by simp only [List.getElem?_toArray, List.getElem?_cons_succ, List.getElem?_cons_zero]; rfl) (by kernel_rfl) (by kernel_rfl) (by kernel_rfl) (by exact fun _ _ _ h => h) (Or.inr ⟨by rfl, rfl⟩) (by assumption) ?_)); (try simp only [Act.put, List.setIfInBounds_toArray, List.set_cons_zero, List.set_cons_succ]))
    ((first | (refine wpAnyH_take (i := 10) (v := ?_) (by simp only [List.getElem?_toArray, List.getElem?_cons_succ, List.getElem?_cons_zero]; rfl) (by kernel_rfl) (by kernel_rfl) (by kernel_rfl) (by exact fun _ _ _ h => h) (Or.inl ⟨by rfl, ?_⟩) (by assumption) ?_; rotate_left 1; · (intro w hSw; (try dsimp only at hSw); go_simp; (try with_reducible rfl))) | (refine wpAnyH_take (i := 10) (v := undef) (by simp only [List.getElem?_toArray, List.getElem?_cons_succ, List.getElem?_cons_zero]; rfl) (by kernel_rfl) (by kernel_rfl) (by kernel_rfl) (by exact fun _ _ _ h => h) (Or.inr ⟨by rfl, rfl⟩) (by assumption) ?_)); (try simp only [Act.put, List.setIfInBounds_toArray, List.set_cons_zero, List.set_cons_succ]))
    ((first | (refine wpAnyH_take (i := 11) (v := ?_) (by simp only [List.getElem?_toArray, List.getElem?_cons_succ, List.getElem?_cons_zero]; rfl) (by kernel_rfl) (by kernel_rfl) (by kernel_rfl) (by exact fun _ _ _ h => h) (Or.inl ⟨by rfl, ?_⟩) (by assumption) ?_; rotate_left 1; · (intro w hSw; (try dsimp only at hSw); go_simp; (try with_reducible rfl))) | (refine wpAnyH_take (i := 11) (v := undef) (by simp only [List.getElem?_toArray, List.getElem?_cons_succ, List.getElem?_cons_zero]; rfl) (by kernel_rfl) (by kernel_rfl) (by kernel_rfl) (by exact fun _ _ _ h => h) (Or.inr ⟨by rfl, rfl⟩) (by assumption) ?_)); (try simp only [Act.put, List.setIfInBounds_toArray, List.set_cons_zero, List.set_cons_succ]))
    ((first | (refine wpAnyH_take (i := 12) (v := ?_) (by simp only [List.getElem?_toArray, List.getElem?_cons_succ, List.getElem?_cons_zero]; rfl) (by kernel_rfl) (by kernel_rfl) (by kernel_rfl) (by exact fun _ _ _ h => h) (Or.inl ⟨by rfl, ?_⟩) (by assumption) ?_; rotate_left 1; · (intro w hSw; (try dsimp only at hSw); go_simp; (try with_reducible rfl))) | (refine wpAnyH_take (i := 12) (v := undef) (by simp only [List.getElem?_toArray, List.getElem?_cons_succ, List.getElem?_cons_zero]; rfl) (by kernel_rfl) (by kernel_rfl) (by kernel_rfl) (by exact fun _ _ _ h => h) (Or.inr ⟨by rfl, rfl⟩) (by assumption) ?_)); (try simp only [Act.put, List.setIfInBounds_toArray, List.set_cons_zero, List.set_cons_succ]))
    ((first | (refine wpAnyH_take (i := 13) (v := ?_) (by simp only [List.getElem?_toArray, List.getElem?_cons_succ, List.getElem?_cons_zero]; rfl) (by kernel_rfl) (by kernel_rfl) (by kernel_rfl) (by exact fun _ _ _ h => h) (Or.inl ⟨by rfl, ?_⟩) (by assumption) ?_; rotate_left 1; · (intro w hSw; (try dsimp only at hSw); go_simp; (try with_reducible rfl))) | (refine wpAnyH_take (i := 13) (v := undef) (by simp only [List.getElem?_toArray, List.getElem?_cons_succ, List.getElem?_cons_zero]; rfl) (by kernel_rfl) (by kernel_rfl) (by kernel_rfl) (by exact fun _ _ _ h => h) (Or.inr ⟨by rfl, rfl⟩) (by assumption) ?_)); (try simp only [Act.put, List.setIfInBounds_toArray, List.set_cons_zero, List.set_cons_succ]))
    (refine wpAnyH_done (by kernel_rfl) ?_ _)
    clear s2 s3
    clear i10 i20 i43
    have E_P0 := Lib.hid hP0; have E_P1 := Lib.hid hP1; have E_P2 := Lib.hid hP2
    clear hP0 hP1 hP2
    have t1 : ¬ (9223372036854775807 < KW.size + SW.size + NM.size) := by omega
    have t2 : ¬ (9223372036854775807 < BB.size + DG.size) := by omega
    go_wp2_with fail
    have HPO := Lib.hid (rbuild_two (KW ++ SW ++ NM) (BB ++ DG) HBL.out (Zn.rbld_3 HGD.out HFM.out E_KW.out E_SW.out E_NM.out E_NU.out E_RS.out E_DB.out E_DE.out E_NW.out E_OW.out E_OO.out E_BB.out (by rw [E_P0.out, E_P1.out, E_P2.out]; exact E_DG.out)))
    go_ret2
    exact BldPost.yes HVE.out HPO.out.1 HPO.out.2
end Go.Proofs.YtelngghecmkipaaGreatDoor
