/- Chapter 11: the walk of Build of the program. -/
import Derived.Test.YtelngghecmkipaaGreatDoorTake
import Derived.Test.YtelngghecmkipaaGreatDoorZonGP
import Derived.Test.YtelngghecmkipaaGreatDoorZonGM
import Derived.Test.YtelngghecmkipaaGreatDoorZonParseW
import Derived.Deep.CutRange
import Derived.Deep.AppendLies
namespace Go.Proofs.YtelngghecmkipaaGreatDoor
open Go.RowKit Go.Maps

theorem below_undrew {w w' : World} (h : Below w.drew.heap.size w.drew w') : Below w.heap.size w w' := ((Below.refl w.heap.size w).drew).trans h
theorem ZV.keep {w W W' : World} {z : Zn.Z} {M : Array Value} {g g8 : Nat} (h : ZV w z M g W) (hb : Below g8 W W') (h1 : w.heap.size < g8) (h2 : g < g8) : ZV w z M g W' :=
  ⟨(hb.block _ h1).trans h.1, (hb.block _ h2).trans h.2.1, ⟨hb.os.trans h.2.2.os, hb.tape.trans h.2.2.tape, hb.output.trans h.2.2.output, Nat.le_trans h.2.2.size hb.size, fun b hlt => (hb.block b (Nat.lt_of_lt_of_le hlt (Nat.le_of_lt h1))).trans (h.2.2.block b hlt)⟩⟩
/-- What the first loop of Build has done. -/
def BLn (w : World) (z : Zn.Z) (M : Array Value) (g5 g8 wl k : Nat) (W : World) : Prop :=
  ZV w z M g5 W ∧ ∃ v rows, SheetIs W g8 M v ∧ LinesAt W (g8 + 1) v rows ∧ Ln.txt rows = List.replicate k (List.replicate wl 60) ∧ g8 + 1 ≤ W.heap.size ∧ g5 < g8 ∧ w.heap.size < g5
theorem fold1 : Array.foldl (fun (cs : Array Value) (x : Value × Nat) => cs.setIfInBounds x.snd x.fst) #[.int .i64 0, .int .i64 0, .int .i64 0, .int .i64 0, .int .i64 0, .int .i64 0, .int .i64 0, .int .i64 0, .int .i64 0, .int .i64 0, .int .i64 0, .int .i64 0, .int .i64 0, .int .i64 0, .int .i64 0, .int .i64 0, .int .i64 0, .int .i64 0, .int .i64 0, .int .i64 0, .int .i64 0, .int .i64 0, .int .i64 0, .int .i64 0, .int .i64 0, .int .i64 0, .int .i64 0, .int .i64 0, .int .i64 0, .int .i64 0, .int .i64 0, .int .i64 0, .int .i64 0, .int .i64 0, .int .i64 0, .int .i64 0, .int .i64 0, .int .i64 0, .int .i64 0, .int .i64 0, .int .i64 0, .int .i64 0, .int .i64 0, .int .i64 0, .int .i64 0, .slice none 0 0] (Zn.lay 1).zipIdx 0 45 = (Zn.lay 1).push (.slice none 0 0) := by kernel_rfl
theorem fold2 : Array.foldl (fun (cs : Array Value) (x : Value × Nat) => cs.setIfInBounds x.snd x.fst) #[.int .i64 0, .int .i64 0, .int .i64 0, .int .i64 0, .int .i64 0, .int .i64 0, .int .i64 0, .int .i64 0, .int .i64 0, .int .i64 0, .int .i64 0, .int .i64 0, .int .i64 0, .int .i64 0, .int .i64 0, .int .i64 0, .int .i64 0, .int .i64 0, .int .i64 0, .int .i64 0, .int .i64 0, .int .i64 0, .int .i64 0, .int .i64 0, .int .i64 0, .int .i64 0, .int .i64 0, .int .i64 0, .int .i64 0, .int .i64 0, .int .i64 0, .int .i64 0, .int .i64 0, .int .i64 0, .int .i64 0, .int .i64 0, .int .i64 0, .int .i64 0, .int .i64 0, .int .i64 0, .int .i64 0, .int .i64 0, .int .i64 0, .int .i64 0, .int .i64 0, .slice none 0 0] (Zn.lay 2).zipIdx 0 45 = (Zn.lay 2).push (.slice none 0 0) := by kernel_rfl
theorem fold3 : Array.foldl (fun (cs : Array Value) (x : Value × Nat) => cs.setIfInBounds x.snd x.fst) #[.int .i64 0, .int .i64 0, .int .i64 0, .int .i64 0, .int .i64 0, .int .i64 0, .int .i64 0, .int .i64 0, .int .i64 0, .int .i64 0, .int .i64 0, .int .i64 0, .int .i64 0, .int .i64 0, .int .i64 0, .int .i64 0, .int .i64 0, .int .i64 0, .int .i64 0, .int .i64 0, .int .i64 0, .int .i64 0, .int .i64 0, .int .i64 0, .int .i64 0, .int .i64 0, .int .i64 0, .int .i64 0, .int .i64 0, .int .i64 0, .int .i64 0, .int .i64 0, .int .i64 0, .int .i64 0, .int .i64 0, .int .i64 0, .int .i64 0, .int .i64 0, .int .i64 0, .int .i64 0, .int .i64 0, .int .i64 0, .int .i64 0, .int .i64 0, .int .i64 0, .slice none 0 0] (Zn.lay 3).zipIdx 0 45 = (Zn.lay 3).push (.slice none 0 0) := by kernel_rfl
theorem fold_lay (F : Nat) (h : 1 ≤ F ∧ F ≤ 3) : Array.foldl (fun (cs : Array Value) (x : Value × Nat) => cs.setIfInBounds x.snd x.fst) #[.int .i64 0, .int .i64 0, .int .i64 0, .int .i64 0, .int .i64 0, .int .i64 0, .int .i64 0, .int .i64 0, .int .i64 0, .int .i64 0, .int .i64 0, .int .i64 0, .int .i64 0, .int .i64 0, .int .i64 0, .int .i64 0, .int .i64 0, .int .i64 0, .int .i64 0, .int .i64 0, .int .i64 0, .int .i64 0, .int .i64 0, .int .i64 0, .int .i64 0, .int .i64 0, .int .i64 0, .int .i64 0, .int .i64 0, .int .i64 0, .int .i64 0, .int .i64 0, .int .i64 0, .int .i64 0, .int .i64 0, .int .i64 0, .int .i64 0, .int .i64 0, .int .i64 0, .int .i64 0, .int .i64 0, .int .i64 0, .int .i64 0, .int .i64 0, .int .i64 0, .slice none 0 0] (Zn.lay F).zipIdx 0 45 = (Zn.lay F).push (.slice none 0 0) := by
  have h3 : F = 1 ∨ F = 2 ∨ F = 3 := by omega
  rcases h3 with rfl | rfl | rfl
  · exact fold1
  · exact fold2
  · exact fold3
/-- What Build leaves. -/
def BldPost (z : Zn.Z) (w : World) (e : Ending) (w' : World) : Prop :=
  ∃ v, e = .returned (.tuple #[v, .int .i64 (Zn.vldE z)]) ∧ (Zn.vldE z ≠ 0 → v = .slice none 0 0) ∧ (Zn.vldE z = 0 → w'.ownsRow w.heap.size 9 1 v (Zn.bldK z).length ((Zn.bldK z).map .string)) ∧ Below w.heap.size w w'
theorem BldPost.no {z : Zn.Z} {w w' : World} {vE : Int} (h : vE ≠ 0) (hE : Zn.vldE z = vE) (hb : Below w.heap.size w w') : BldPost z w (.returned (.tuple #[.slice none 0 0, .int .i64 vE])) w' :=
  ⟨_, by rw [hE], fun _ => rfl, fun h0 => absurd (hE.symm.trans h0) h, hb⟩
theorem BldPost.yes {z : Zn.Z} {w w' : World} {v : Value} (hE : Zn.vldE z = 0) (h : w'.ownsRow w.heap.size 9 1 v (Zn.bldK z).length ((Zn.bldK z).map .string)) (hb : Below w.heap.size w w') : BldPost z w (.returned (.tuple #[v, .int .i64 0])) w' :=
  ⟨_, by rw [hE], fun h0 => absurd hE h0, fun _ => h, hb⟩
theorem ownsRow_base {w : World} {base b0 e size n : Nat} {v : Value} {xs : List Value} (h : w.ownsRow base e size v n xs) (hb : b0 ≤ base) : w.ownsRow b0 e size v n xs := by
  refine ⟨h.1, ?_⟩
  rcases h.2 with h | ⟨g, cap, cur, h0, h1, h2⟩
  · exact .inl h
  · exact .inr ⟨g, cap, cur, h0, Nat.le_trans hb h1, h2⟩
theorem build_grow {w wr w1 : World} {E k : Nat} {o : Value} {xs : List Value} (h : Below w.heap.size w wr) (ho : wr.ownsRow w.heap.size E 1 o k xs) (ob : Obj) (hg : (wr.alloc ob).grownBy w1 o.ownBlock) : Below w.heap.size w w1 := by
  have h1 := (h.alloc h.size ob).grown hg (by simp; exact Nat.le_succ_of_le h.size) (fun j hj => (ho.lt j hj).1)
  exact h1
theorem Zn.bld_of {z : Zn.Z} {F : Nat} {F7 : Nat → List UInt8} {rows : List Ln} (h : F7 = Zn.bldF F z) (hr : Ln.txt rows = Zn.asm F F7) (hf : z.fmt = F) : rows.map (fun r => Value.string ⟨r.2.2.toArray⟩) = (Zn.bldK z).map .string ∧ rows.length = (Zn.bldK z).length := by
  have e : z.fmt.toNat = F := by rw [hf]; rfl
  have e2 : Zn.bldK z = rows.map fun r => ⟨r.2.2.toArray⟩ := by
    unfold Zn.bldK Zn.bld
    rw [e, ← h, ← hr]
    unfold Ln.txt
    rw [List.map_map]; rfl
  rw [e2, List.map_map, List.length_map]
  exact ⟨rfl, rfl⟩
theorem build_own {w wi wr : World} {z : Zn.Z} {rows : List Ln} {o : Value} (hb : Below w.heap.size w wi) (h : wr.ownsRow wi.heap.size 9 1 o rows.length ((rows.take rows.length).map fun r => Value.string ⟨r.2.2.toArray⟩))
    (hz : rows.map (fun r => Value.string ⟨r.2.2.toArray⟩) = (Zn.bldK z).map .string ∧ rows.length = (Zn.bldK z).length) : wr.ownsRow w.heap.size 9 1 o (Zn.bldK z).length ((Zn.bldK z).map .string) := by
  rw [List.take_length, hz.1, hz.2] at h
  exact ownsRow_base h hb.size
theorem Tryz.infoS : (Tryz.prog.info? 9).map (fun i => (i.zero, i.size, i.bytes)) = some (some (.string ⟨#[]⟩), 1, 16) := by kernel_rfl
def BD (w : World) (z : Zn.Z) (M : Array Value) (g5 g8 F : Nat) (Fn : Nat → List UInt8) (W : World) : Prop := ZV w z M g5 W ∧ ∃ rows, SheetAt W (g8 + 1) g8 F rows ∧ Ln.txt rows = Zn.asm F Fn ∧ g5 < g8 ∧ w.heap.size < g5
theorem BD.later {w W W' : World} {z : Zn.Z} {M : Array Value} {g5 g8 F : Nat} {Fn : Nat → List UInt8} (h : BD w z M g5 g8 F Fn W) (hb : Below W.heap.size W W') : BD w z M g5 g8 F Fn W' := by
  obtain ⟨h1, rows, h2, h3⟩ := h
  exact ⟨h1.later hb, rows, h2.later hb, h3⟩
theorem Zn.asm_fill (F : Nat) (h : 1 ≤ F ∧ F ≤ 3) : Zn.asm F (fun i => List.replicate (Zn.wd F i) 60) = List.replicate (Zn.nLines F) (List.replicate (Zn.wLine F) 60) := by
  have h3 : F = 1 ∨ F = 2 ∨ F = 3 := by omega
  rcases h3 with rfl | rfl | rfl <;> rfl
theorem conv_line2 (w : World) (s : ByteArray) : ∃ W cap, Sem.run Tryz.prog (convert 9 41 (.string s)) w = .ok (.slice (some ⟨w.heap.size, 0, none⟩) s.size cap) W ∧ (Below w.heap.size w W ∧ W.heap.size = w.heap.size + 1 ∧ BytesAt W w.heap.size s.data.toList ∧ s.size ≤ cap) := by
  obtain ⟨W, cap, h1, h2⟩ := conv_line w s
  exact ⟨W, cap, h1, h2⟩

theorem build_step {w : World} {z : Zn.Z} {M : Array Value} {g5 g8 wl k : Nat} {wr w3 W0 w4 : World} {v : Value} {rows : List Ln} {FI : ByteArray} {cap gq capq : Nat} (hM : M.size = 45)
    (hv : ZV w z M g5 wr) (hs : SheetIs wr g8 M v) (hl : LinesAt wr (g8 + 1) v rows) (ht : Ln.txt rows = List.replicate k (List.replicate wl 60)) (hg : g8 + 1 ≤ wr.heap.size) (h58 : g5 < g8) (hw5 : w.heap.size < g5)
    (hFI : FI.data.toList = List.replicate wl 60) (hb : Below wr.heap.size wr w3) (hc : Below w3.heap.size w3 W0 ∧ W0.heap.size = w3.heap.size + 1 ∧ BytesAt W0 w3.heap.size FI.data.toList ∧ FI.size ≤ cap)
    (hown : w4.ownsRow (g8 + 1) 41 1 (.slice (some ⟨gq, 0, none⟩) (rows.length + 1) capq) (rows.length + 1) (rows.map Ln.val ++ [.slice (some ⟨w3.heap.size, 0, none⟩) FI.size cap]))
    (hgrow : (W0.alloc (.cells #[.slice (some ⟨w3.heap.size, 0, none⟩) FI.size cap] 41)).grownBy w4 v.ownBlock) (hat : v.ownBlock = some gq ∨ gq = (W0.alloc (.cells #[.slice (some ⟨w3.heap.size, 0, none⟩) FI.size cap] 41)).heap.size) :
    BLn w z M g5 g8 wl (k + 1) (w4.setCell ⟨g8, 45, none⟩ (.slice (some ⟨gq, 0, none⟩) (rows.length + 1) capq)) ∧ w4.cell? ⟨g8, 45, none⟩ = some v ∧ w4.frozen? ⟨g8, 45, none⟩ = false := by
  have hba := below_alloc1 W0 (.cells #[.slice (some ⟨w3.heap.size, 0, none⟩) FI.size cap] 41)
  have hv3 := hv.later hb
  have hst := lines_step (M := M) (l := FI.data.toList) (k := w3.heap.size) (cp := cap) (hs.later hb) (hl.later hb) (Nat.lt_succ_self g8) hv3.1 (by omega) (Nat.le_trans hg hb.size) (hc.1.trans (hba.mono hc.1.size)) rfl
    (by rw [size_alloc1]; omega) (hc.2.2.1.later hba (by omega)) (by rw [Opt.size_len]; exact hc.2.2.2) (by rw [Opt.size_len]; exact hown) hgrow (by
      rcases hat with h | h
      · exact .inl (by show some gq = _; exact h.symm)
      · exact .inr (by show some gq = _; rw [h]))
  rw [hM] at hst
  obtain ⟨q1, q2, q3, q4, q5, q6⟩ := hst
  have hb8 := q6 g8 w3 (Below.refl g8 w3) (Nat.le_refl g8)
  refine ⟨⟨hv3.keep hb8 (by omega) h58, _, _, q1, q2, ?_, q1.lt, h58, hw5⟩, q4, q5⟩
  unfold Ln.txt at *
  rw [List.map_append, ht, List.replicate_succ']
  show _ ++ [FI.data.toList] = _
  rw [hFI]
theorem nmV_len (a b : List UInt8) (n : Int) : (Opt.nmV a b n).length ≤ n.toNat := by
  unfold Opt.nmV
  split
  · exact Nat.zero_le _
  · rw [List.length_take]; omega
theorem zwd_le (F : Nat) (h : 1 ≤ F ∧ F ≤ 3) : Zn.wd F 2 ≤ 64 := by
  have h3 : F = 1 ∨ F = 2 ∨ F = 3 := by omega
  rcases h3 with rfl | rfl | rfl <;> decide
set_option maxRecDepth 100000 in
set_option maxHeartbeats 16000000 in
theorem zbuild (z : Zn.Z) (w : World) (hz : z.fits 140737488355328) (hd : Dat.At w) (hx : Opt.Lax w) (hab : z.sur.size + z.giv.size ≤ 4294967000) :
    Calls Tryz.prog 16 #[z.val] w (BldPost z w) := by
  have HDX := Lib.hid (And.intro hd hx)
  have HVV := Lib.hid (show ∀ W, Dat.At W → Calls Tryz.prog 23 #[.agg #[.int .i64 z.fmt, .string z.kind, .string z.state, .string z.sur, .string z.giv, .string z.num, .string z.nat, .string z.birth, .string z.sex, .string z.exp, .string z.opt, .string z.sec]] W fun e w' => e = .returned (.int .i64 (Zn.vldE z)) ∧ Below W.heap.size W w' from fun W hW => zvalidZ z W hz hW)
  obtain ⟨vE, hvE⟩ : ∃ q, Zn.vldE z = q := ⟨_, rfl⟩
  rw [hvE] at HVV
  have HVE := Lib.hid hvE
  have hb1 := below_alloc1 w (.cells #[.int .i64 z.fmt, .string z.kind, .string z.state, .string z.sur, .string z.giv, .string z.num, .string z.nat, .string z.birth, .string z.sex, .string z.exp, .string z.opt, .string z.sec] 24)
  have hbx := ZBox.new w z
  have HFIT := Lib.hid hz; have HAB := Lib.hid hab
  clear hvE hd hx hz hab
  unfold Zn.Z.val
  go_enter Tryz.func16, Tryz.ntmps16
  go_upto_region 1 with fail
  generalize w.alloc (.cells #[.int .i64 z.fmt, .string z.kind, .string z.state, .string z.sur, .string z.giv, .string z.num, .string z.nat, .string z.birth, .string z.sex, .string z.exp, .string z.opt, .string z.sec] 24) = w1 at hb1 hbx ⊢
  have HB1 := Lib.hid hb1; have HX := Lib.hid hbx
  clear hb1 hbx
  obtain ⟨x0, x1, x2, x3, x4, x5, x6, x7, x8, x9, x10, x11⟩ := HX.out.cells
  go_wp2_with fail
  refine (HVV.out _ (HDX.out.1.below HB1.out)).mono ?_; rintro e w2 ⟨rfl, hb2⟩
  have HB2 := Lib.hid (HB1.out.trans (hb2.mono HB1.out.size)); have HX2 := Lib.hid (HX.out.later hb2)
  clear hb2 HB1 HX x0 x1 x2 x3 x4 x5 x6 x7 x8 x9 x10 x11
  obtain ⟨x0, x1, x2, x3, x4, x5, x6, x7, x8, x9, x10, x11⟩ := HX2.out.cells
  by_cases hE : vE ≠ 0
  · have e1 : (vE != 0) = true := by rw [bne_iff_ne]; exact hE
    have HE' := Lib.hid hE
    clear hE
    go_wp2_with fail
    go_ret2
    exact BldPost.no HE'.out HVE.out HB2.out
  obtain rfl : vE = 0 := by omega
  have HGD := Lib.hid (Zn.good_of HVE.out)
  clear hE
  obtain ⟨F, hF, hF1⟩ := Zn.vld_fmt HVE.out
  have HF1 := Lib.hid hF1
  rw [hF] at x0
  have HFF := Lib.hid hF
  have HLY := Lib.hid zlayout_f
  clear hF hF1
  go_wp2_with fail
  refine (HLY.out F HF1.out _).mono ?_; rintro e w3 ⟨rfl, hb3⟩
  obtain ⟨w4, hst, hv⟩ := zv_new (Zn.lay F) (Zn.lay_size F) (Zn.lay_one F) HX2.out HB2.out hb3
  have HV := Lib.hid hv
  have hsz := Zn.lay_size F
  have hg5 : w.heap.size < w3.heap.size := Nat.lt_of_lt_of_le HX2.out.lt hb3.size
  clear hb3 hv x0 x1 x2 x3 x4 x5 x6 x7 x8 x9 x10 x11
  obtain ⟨g5, hg⟩ : ∃ q, w3.heap.size = q := ⟨_, rfl⟩
  rw [hg] at HV hg5 hst
  have HG5 := Lib.hid hg5
  clear hg5
  go_upto_region 5 with fail
  clear hst hg
  have hss : SheetIs (w4.alloc (.cells ((Zn.lay F).push (.slice none 0 0)) 59)) w4.heap.size (Zn.lay F) (.slice none 0 0) := heap_alloc_new w4 _
  have hb5 := below_alloc1 w4 (.cells ((Zn.lay F).push (.slice none 0 0)) 59)
  have hv5 := HV.out.later hb5
  have hg8 : g5 < w4.heap.size := HV.out.2.1.lt
  have hszp : ((Zn.lay F).push (.slice none 0 0)).size = 46 := by rw [Array.size_push, hsz]
  go_upto_region 6 with (first | refine wpList_load_row rfl 56 _ rfl g5 rfl _ (Zn.lay F) _ _ HV.out.2.1 Tryz.underlying56 rfl (by rw [hsz]; exact Tryz.infoPl) ?_)
  rw [fold_lay F HF1.out]
  generalize w4.alloc (.cells ((Zn.lay F).push (.slice none 0 0)) 59) = w5 at hss hb5 hv5 ⊢
  obtain ⟨g8, hg⟩ : ∃ q, w4.heap.size = q := ⟨_, rfl⟩
  rw [hg] at hss hg8 ⊢
  have hsl := hss.lt
  have HBL := Lib.hid (show BLn w z (Zn.lay F) g5 g8 (Zn.wLine F) 0 w5 from ⟨hv5, _, [], hss, ⟨World.ownsRow_nil _ _ _ _, List.nodup_nil, fun r hr => by cases hr⟩, rfl, hsl, hg8, HG5.out⟩)
  clear hss hb5 hv5 hg8 hg hszp hsl
  go_wp2_with fail
  have hwl44 : Zn.wLine F ≤ 44 := by unfold Zn.wLine; split; · omega
                                     split <;> omega
  obtain ⟨FI, hFI⟩ : ∃ q : ByteArray, q = ⟨(List.replicate (Zn.wLine F) (60 : UInt8)).toArray⟩ := ⟨_, rfl⟩
  have HRP := Lib.hid (show ∀ W, Calls Tryz.prog 46 #[.string ⟨#[60]⟩, .int .i64 (Zn.wLine F)] W fun e w' => e = .returned (.string FI) ∧ Below W.heap.size W w' from fun W => by
    have h := orepeat (Zn.wLine F) W (by omega) (by omega)
    rw [Int.toNat_natCast, ← hFI] at h; exact h)
  have HFI := Lib.hid (show FI.data.toList = List.replicate (Zn.wLine F) 60 by rw [hFI])
  have hnl3 : Zn.nLines F ≤ 3 := by unfold Zn.nLines; split <;> omega
  obtain ⟨i0, hi0, hz0, hz1, hz2⟩ := info_parts Tryz.infoB
  clear hFI
  go_loopw [32] (fun i wr => ∃ k : Nat, k ≤ Zn.nLines F ∧ i = .int .i64 k ∧ BLn w z (Zn.lay F) g5 g8 (Zn.wLine F) k wr) (fun i _ => Zn.nLines F - (intOf i).toNat)
  case atStart => exact ⟨0, Nat.zero_le _, rfl, HBL.out⟩
  case round =>
    obtain ⟨k, hk, rfl, qv, v, rows, qs, ql, qt, qg, q58, qw5⟩ := hrel
    by_cases hlt : k < Zn.nLines F
    · have hi : (k : Int) < (Zn.nLines F : Int) := by omega
      have c45 := qs.last
      rw [hsz] at c45
      have hrl : rows.length = k := by have := congrArg List.length qt; unfold Ln.txt at this; rwa [List.length_map, List.length_replicate] at this
      have HRL := Lib.hid (show rows.length ≤ 3 by omega)
      have HOL := Lib.hid ql.1
      have HSZ := Lib.hid qg
      have HSTEP := Lib.hid (fun (w3 W0 : World) (cap gq capq : Nat) (w4 : World) hb hc hown hgrow hat => build_step (w3 := w3) (W0 := W0) (cap := cap) (gq := gq) (capq := capq) (w4 := w4) hsz qv qs ql qt qg q58 qw5 HFI.out hb hc hown hgrow hat)
      clear qv qs ql qt qg q58 qw5 hrl
      go_wp2_with fail
      refine wp_region_any (by kernel_rfl) ?_
      (try (change wpAny _ _ _ _ _ _ _ (World.drew _)))
      (refine wpAny_take (i := 0) (v := ?_) (by simp only [List.getElem?_toArray, List.getElem?_cons_zero]; rfl) (by kernel_rfl) (by kernel_rfl) (by kernel_rfl) (by exact fun _ _ _ h => h) (Or.inl ⟨by rfl, ?_⟩) ?_; rotate_left 1; · (intro w; go_simp; (try with_reducible rfl)))
      (refine wpAny_take (i := 1) (v := ?_) (by simp only [List.getElem?_toArray, List.getElem?_cons_succ, List.getElem?_cons_zero]; rfl) (by kernel_rfl) (by kernel_rfl) (by kernel_rfl) (by exact fun _ _ _ h => h) (Or.inl ⟨by rfl, ?_⟩) ?_; rotate_left 1; · (intro w; go_simp; (try with_reducible rfl)))
      (refine wpAny_take (i := 2) (v := ?_) (by simp only [List.getElem?_toArray, List.getElem?_cons_succ, List.getElem?_cons_zero]; rfl) (by kernel_rfl) (by kernel_rfl) (by kernel_rfl) (by exact fun _ _ _ h => h) (Or.inl ⟨by rfl, ?_⟩) ?_; rotate_left 1; · (intro w; go_simp; (try with_reducible rfl)))
      (refine wpAny_take (i := 3) (v := ?_) (by simp only [List.getElem?_toArray, List.getElem?_cons_succ, List.getElem?_cons_zero]; rfl) (by kernel_rfl) (by kernel_rfl) (by kernel_rfl) (by exact fun _ _ _ h => h) (Or.inl ⟨by rfl, ?_⟩) ?_; rotate_left 1; · (intro w; go_simp; (try with_reducible rfl)))
      (refine wpAny_take (i := 5) (v := ?_) (by simp only [List.getElem?_toArray, List.getElem?_cons_succ, List.getElem?_cons_zero]; rfl) (by kernel_rfl) (by kernel_rfl) (by kernel_rfl) (by exact fun _ _ _ h => h) (Or.inl ⟨by rfl, ?_⟩) ?_; rotate_left 1; · (intro w; go_simp; (try with_reducible rfl)))
      refine wpAny_ready (rs := [4, 6]) (by kernel_rfl) (by simp) ?_
      refine AllReady.cons (by simp only [List.getElem?_toArray, List.getElem?_cons_succ, List.getElem?_cons_zero]; rfl) (fun K hK => ?_) ?_
      · go_simp
        (first | (refine hK _ _ ?_; clear hK K) | skip)
        refine wpAny_ready (rs := [6]) (by kernel_rfl) (by simp) ?_
        refine AllReady.cons (by simp only [List.getElem?_toArray, List.getElem?_cons_succ, List.getElem?_cons_zero]; rfl) (fun K hK => ?_) ?_
        · (go_simp; go_at_call 46; refine (HRP.out _).mono ?_; rintro e w3 ⟨rfl, hb3⟩; have hb3' := below_undrew hb3; have y45 := cell_later hb3' c45; obtain ⟨W0, cap, hcv, hcv2⟩ := conv_line2 w3 FI; have y45b := cell_later hcv2.1 y45; have y45c := cell_later (below_alloc1 W0 (.cells #[.slice (some ⟨w3.heap.size, 0, none⟩) FI.size cap] 41)) y45b; have HC2 := Lib.hid hcv2; have HOWN3 := Lib.hid (ownsRow_later (ownsRow_later (ownsRow_later HOL.out hb3') hcv2.1) (below_alloc1 W0 (.cells #[.slice (some ⟨w3.heap.size, 0, none⟩) FI.size cap] 41))); have HBS := Lib.hid (show g8 + 1 ≤ (W0.alloc (.cells #[.slice (some ⟨w3.heap.size, 0, none⟩) FI.size cap] 41)).heap.size by rw [size_alloc1]; have := hb3'.size; have := hcv2.1.size; have := HSZ.out; omega); clear hcv2)
          (first | (refine hK _ _ ?_; clear hK K) | skip)
          refine wpAny_ready (rs := [7]) (by kernel_rfl) (by simp) ?_
          refine AllReady.cons (by simp only [List.getElem?_toArray, List.getElem?_cons_succ, List.getElem?_cons_zero]; rfl) (fun K hK => ?_) ?_
          · go_simp
            (first | (refine hK _ _ ?_; clear hK K) | skip)
            refine wpAny_ready (rs := [8]) (by kernel_rfl) (by simp) ?_
            refine AllReady.cons (by simp only [List.getElem?_toArray, List.getElem?_cons_succ, List.getElem?_cons_zero]; rfl) (fun K hK => ?_) ?_
            · go_simp
              (first | (refine hK _ _ ?_; clear hK K) | skip)
              refine wpAny_ready (rs := [9]) (by kernel_rfl) (by simp) ?_
              refine AllReady.cons (by simp only [List.getElem?_toArray, List.getElem?_cons_succ, List.getElem?_cons_zero]; rfl) (fun K hK => ?_) ?_
              · (refine step_append_lies _ (by rfl) _ _ _ (by rfl) (g8 + 1) 41 i0 (.slice none 0 0) 1 24 Tryz.underlying57 hi0 hz0 hz1 hz2 rfl (by omega) _ _ _ (by rfl) HOWN3.out ⟨W0.heap.size, 0, none⟩ 1 1 [.slice (some ⟨w3.heap.size, 0, none⟩) FI.size cap] (by rfl) (by rfl) (cell_one_new _ _ _) (fun u hu => by simp at hu; subst hu; rfl) (by omega) (by have := HRL.out; unfold maxLen; omega) (by have := HRL.out; omega) HBS.out _ rfl ?_; intro gq capq w4 hown4 hgrow hat hlt4; have hst := HSTEP.out w3 W0 cap gq capq w4 hb3' HC2.out hown4 hgrow hat; have c4 := hst.2.1; have f4 := hst.2.2; have HST := Lib.hid hst.1; clear hst hown4 hgrow hat; go_simp)
                (first | (refine hK _ _ ?_; clear hK K) | skip)
                (refine wpAny_take (i := 10) (v := ?_) (by simp only [List.getElem?_toArray, List.getElem?_cons_succ, List.getElem?_cons_zero]; rfl) (by kernel_rfl) (by kernel_rfl) (by kernel_rfl) (by exact fun _ _ _ h => h) (Or.inl ⟨by rfl, ?_⟩) ?_; rotate_left 1; · (intro w; go_simp; (try with_reducible rfl)))
                (refine wpAny_take (i := 11) (v := ?_) (by simp only [List.getElem?_toArray, List.getElem?_cons_succ, List.getElem?_cons_zero]; rfl) (by kernel_rfl) (by kernel_rfl) (by kernel_rfl) (by exact fun _ _ _ h => h) (Or.inl ⟨by rfl, ?_⟩) ?_; rotate_left 1; · (intro w; go_simp; (try with_reducible rfl)))
                refine wpAny_ready (rs := [12]) (by kernel_rfl) (by simp) ?_
                refine AllReady.cons (by simp only [List.getElem?_toArray, List.getElem?_cons_succ, List.getElem?_cons_zero]; rfl) (fun K hK => ?_) ?_
                · go_simp
                  (first | (refine hK _ _ ?_; clear hK K) | skip)
                  refine wpAny_done (by kernel_rfl) ?_ _
                  go_wp2_with fail
                  go_roundw
                  case rel => exact ⟨k + 1, by omega, by go_num, HST.out⟩
                  case measure => simp [intOf]; omega
                exact AllReady.nil
              exact AllReady.nil
            exact AllReady.nil
          exact AllReady.nil
        exact AllReady.nil
      refine AllReady.cons (by simp only [List.getElem?_toArray, List.getElem?_cons_succ, List.getElem?_cons_zero]; rfl) (fun K hK => ?_) ?_
      · (go_simp; go_at_call 46; refine (HRP.out _).mono ?_; rintro e w3 ⟨rfl, hb3⟩; have hb3' := below_undrew hb3; have y45 := cell_later hb3' c45; obtain ⟨W0, cap, hcv, hcv2⟩ := conv_line2 w3 FI; have y45b := cell_later hcv2.1 y45; have y45c := cell_later (below_alloc1 W0 (.cells #[.slice (some ⟨w3.heap.size, 0, none⟩) FI.size cap] 41)) y45b; have HC2 := Lib.hid hcv2; have HOWN3 := Lib.hid (ownsRow_later (ownsRow_later (ownsRow_later HOL.out hb3') hcv2.1) (below_alloc1 W0 (.cells #[.slice (some ⟨w3.heap.size, 0, none⟩) FI.size cap] 41))); have HBS := Lib.hid (show g8 + 1 ≤ (W0.alloc (.cells #[.slice (some ⟨w3.heap.size, 0, none⟩) FI.size cap] 41)).heap.size by rw [size_alloc1]; have := hb3'.size; have := hcv2.1.size; have := HSZ.out; omega); clear hcv2)
        (first | (refine hK _ _ ?_; clear hK K) | skip)
        refine wpAny_ready (rs := [4, 7]) (by kernel_rfl) (by simp) ?_
        refine AllReady.cons (by simp only [List.getElem?_toArray, List.getElem?_cons_succ, List.getElem?_cons_zero]; rfl) (fun K hK => ?_) ?_
        · go_simp
          (first | (refine hK _ _ ?_; clear hK K) | skip)
          refine wpAny_ready (rs := [7]) (by kernel_rfl) (by simp) ?_
          refine AllReady.cons (by simp only [List.getElem?_toArray, List.getElem?_cons_succ, List.getElem?_cons_zero]; rfl) (fun K hK => ?_) ?_
          · go_simp
            (first | (refine hK _ _ ?_; clear hK K) | skip)
            refine wpAny_ready (rs := [8]) (by kernel_rfl) (by simp) ?_
            refine AllReady.cons (by simp only [List.getElem?_toArray, List.getElem?_cons_succ, List.getElem?_cons_zero]; rfl) (fun K hK => ?_) ?_
            · go_simp
              (first | (refine hK _ _ ?_; clear hK K) | skip)
              refine wpAny_ready (rs := [9]) (by kernel_rfl) (by simp) ?_
              refine AllReady.cons (by simp only [List.getElem?_toArray, List.getElem?_cons_succ, List.getElem?_cons_zero]; rfl) (fun K hK => ?_) ?_
              · (refine step_append_lies _ (by rfl) _ _ _ (by rfl) (g8 + 1) 41 i0 (.slice none 0 0) 1 24 Tryz.underlying57 hi0 hz0 hz1 hz2 rfl (by omega) _ _ _ (by rfl) HOWN3.out ⟨W0.heap.size, 0, none⟩ 1 1 [.slice (some ⟨w3.heap.size, 0, none⟩) FI.size cap] (by rfl) (by rfl) (cell_one_new _ _ _) (fun u hu => by simp at hu; subst hu; rfl) (by omega) (by have := HRL.out; unfold maxLen; omega) (by have := HRL.out; omega) HBS.out _ rfl ?_; intro gq capq w4 hown4 hgrow hat hlt4; have hst := HSTEP.out w3 W0 cap gq capq w4 hb3' HC2.out hown4 hgrow hat; have c4 := hst.2.1; have f4 := hst.2.2; have HST := Lib.hid hst.1; clear hst hown4 hgrow hat; go_simp)
                (first | (refine hK _ _ ?_; clear hK K) | skip)
                (refine wpAny_take (i := 10) (v := ?_) (by simp only [List.getElem?_toArray, List.getElem?_cons_succ, List.getElem?_cons_zero]; rfl) (by kernel_rfl) (by kernel_rfl) (by kernel_rfl) (by exact fun _ _ _ h => h) (Or.inl ⟨by rfl, ?_⟩) ?_; rotate_left 1; · (intro w; go_simp; (try with_reducible rfl)))
                (refine wpAny_take (i := 11) (v := ?_) (by simp only [List.getElem?_toArray, List.getElem?_cons_succ, List.getElem?_cons_zero]; rfl) (by kernel_rfl) (by kernel_rfl) (by kernel_rfl) (by exact fun _ _ _ h => h) (Or.inl ⟨by rfl, ?_⟩) ?_; rotate_left 1; · (intro w; go_simp; (try with_reducible rfl)))
                refine wpAny_ready (rs := [12]) (by kernel_rfl) (by simp) ?_
                refine AllReady.cons (by simp only [List.getElem?_toArray, List.getElem?_cons_succ, List.getElem?_cons_zero]; rfl) (fun K hK => ?_) ?_
                · go_simp
                  (first | (refine hK _ _ ?_; clear hK K) | skip)
                  refine wpAny_done (by kernel_rfl) ?_ _
                  go_wp2_with fail
                  go_roundw
                  case rel => exact ⟨k + 1, by omega, by go_num, HST.out⟩
                  case measure => simp [intOf]; omega
                exact AllReady.nil
              exact AllReady.nil
            exact AllReady.nil
          exact AllReady.nil
        refine AllReady.cons (by simp only [List.getElem?_toArray, List.getElem?_cons_succ, List.getElem?_cons_zero]; rfl) (fun K hK => ?_) ?_
        · go_simp
          (first | (refine hK _ _ ?_; clear hK K) | skip)
          refine wpAny_ready (rs := [4, 8]) (by kernel_rfl) (by simp) ?_
          refine AllReady.cons (by simp only [List.getElem?_toArray, List.getElem?_cons_succ, List.getElem?_cons_zero]; rfl) (fun K hK => ?_) ?_
          · go_simp
            (first | (refine hK _ _ ?_; clear hK K) | skip)
            refine wpAny_ready (rs := [8]) (by kernel_rfl) (by simp) ?_
            refine AllReady.cons (by simp only [List.getElem?_toArray, List.getElem?_cons_succ, List.getElem?_cons_zero]; rfl) (fun K hK => ?_) ?_
            · go_simp
              (first | (refine hK _ _ ?_; clear hK K) | skip)
              refine wpAny_ready (rs := [9]) (by kernel_rfl) (by simp) ?_
              refine AllReady.cons (by simp only [List.getElem?_toArray, List.getElem?_cons_succ, List.getElem?_cons_zero]; rfl) (fun K hK => ?_) ?_
              · (refine step_append_lies _ (by rfl) _ _ _ (by rfl) (g8 + 1) 41 i0 (.slice none 0 0) 1 24 Tryz.underlying57 hi0 hz0 hz1 hz2 rfl (by omega) _ _ _ (by rfl) HOWN3.out ⟨W0.heap.size, 0, none⟩ 1 1 [.slice (some ⟨w3.heap.size, 0, none⟩) FI.size cap] (by rfl) (by rfl) (cell_one_new _ _ _) (fun u hu => by simp at hu; subst hu; rfl) (by omega) (by have := HRL.out; unfold maxLen; omega) (by have := HRL.out; omega) HBS.out _ rfl ?_; intro gq capq w4 hown4 hgrow hat hlt4; have hst := HSTEP.out w3 W0 cap gq capq w4 hb3' HC2.out hown4 hgrow hat; have c4 := hst.2.1; have f4 := hst.2.2; have HST := Lib.hid hst.1; clear hst hown4 hgrow hat; go_simp)
                (first | (refine hK _ _ ?_; clear hK K) | skip)
                (refine wpAny_take (i := 10) (v := ?_) (by simp only [List.getElem?_toArray, List.getElem?_cons_succ, List.getElem?_cons_zero]; rfl) (by kernel_rfl) (by kernel_rfl) (by kernel_rfl) (by exact fun _ _ _ h => h) (Or.inl ⟨by rfl, ?_⟩) ?_; rotate_left 1; · (intro w; go_simp; (try with_reducible rfl)))
                (refine wpAny_take (i := 11) (v := ?_) (by simp only [List.getElem?_toArray, List.getElem?_cons_succ, List.getElem?_cons_zero]; rfl) (by kernel_rfl) (by kernel_rfl) (by kernel_rfl) (by exact fun _ _ _ h => h) (Or.inl ⟨by rfl, ?_⟩) ?_; rotate_left 1; · (intro w; go_simp; (try with_reducible rfl)))
                refine wpAny_ready (rs := [12]) (by kernel_rfl) (by simp) ?_
                refine AllReady.cons (by simp only [List.getElem?_toArray, List.getElem?_cons_succ, List.getElem?_cons_zero]; rfl) (fun K hK => ?_) ?_
                · go_simp
                  (first | (refine hK _ _ ?_; clear hK K) | skip)
                  refine wpAny_done (by kernel_rfl) ?_ _
                  go_wp2_with fail
                  go_roundw
                  case rel => exact ⟨k + 1, by omega, by go_num, HST.out⟩
                  case measure => simp [intOf]; omega
                exact AllReady.nil
              exact AllReady.nil
            exact AllReady.nil
          refine AllReady.cons (by simp only [List.getElem?_toArray, List.getElem?_cons_succ, List.getElem?_cons_zero]; rfl) (fun K hK => ?_) ?_
          · go_simp
            (first | (refine hK _ _ ?_; clear hK K) | skip)
            refine wpAny_ready (rs := [4]) (by kernel_rfl) (by simp) ?_
            refine AllReady.cons (by simp only [List.getElem?_toArray, List.getElem?_cons_succ, List.getElem?_cons_zero]; rfl) (fun K hK => ?_) ?_
            · go_simp
              (first | (refine hK _ _ ?_; clear hK K) | skip)
              refine wpAny_ready (rs := [9]) (by kernel_rfl) (by simp) ?_
              refine AllReady.cons (by simp only [List.getElem?_toArray, List.getElem?_cons_succ, List.getElem?_cons_zero]; rfl) (fun K hK => ?_) ?_
              · (refine step_append_lies _ (by rfl) _ _ _ (by rfl) (g8 + 1) 41 i0 (.slice none 0 0) 1 24 Tryz.underlying57 hi0 hz0 hz1 hz2 rfl (by omega) _ _ _ (by rfl) HOWN3.out ⟨W0.heap.size, 0, none⟩ 1 1 [.slice (some ⟨w3.heap.size, 0, none⟩) FI.size cap] (by rfl) (by rfl) (cell_one_new _ _ _) (fun u hu => by simp at hu; subst hu; rfl) (by omega) (by have := HRL.out; unfold maxLen; omega) (by have := HRL.out; omega) HBS.out _ rfl ?_; intro gq capq w4 hown4 hgrow hat hlt4; have hst := HSTEP.out w3 W0 cap gq capq w4 hb3' HC2.out hown4 hgrow hat; have c4 := hst.2.1; have f4 := hst.2.2; have HST := Lib.hid hst.1; clear hst hown4 hgrow hat; go_simp)
                (first | (refine hK _ _ ?_; clear hK K) | skip)
                (refine wpAny_take (i := 10) (v := ?_) (by simp only [List.getElem?_toArray, List.getElem?_cons_succ, List.getElem?_cons_zero]; rfl) (by kernel_rfl) (by kernel_rfl) (by kernel_rfl) (by exact fun _ _ _ h => h) (Or.inl ⟨by rfl, ?_⟩) ?_; rotate_left 1; · (intro w; go_simp; (try with_reducible rfl)))
                (refine wpAny_take (i := 11) (v := ?_) (by simp only [List.getElem?_toArray, List.getElem?_cons_succ, List.getElem?_cons_zero]; rfl) (by kernel_rfl) (by kernel_rfl) (by kernel_rfl) (by exact fun _ _ _ h => h) (Or.inl ⟨by rfl, ?_⟩) ?_; rotate_left 1; · (intro w; go_simp; (try with_reducible rfl)))
                refine wpAny_ready (rs := [12]) (by kernel_rfl) (by simp) ?_
                refine AllReady.cons (by simp only [List.getElem?_toArray, List.getElem?_cons_succ, List.getElem?_cons_zero]; rfl) (fun K hK => ?_) ?_
                · go_simp
                  (first | (refine hK _ _ ?_; clear hK K) | skip)
                  refine wpAny_done (by kernel_rfl) ?_ _
                  go_wp2_with fail
                  go_roundw
                  case rel => exact ⟨k + 1, by omega, by go_num, HST.out⟩
                  case measure => simp [intOf]; omega
                exact AllReady.nil
              exact AllReady.nil
            exact AllReady.nil
          exact AllReady.nil
        exact AllReady.nil
      exact AllReady.nil
    · obtain rfl : k = Zn.nLines F := by omega
      have HBN := Lib.hid (show BLn w z (Zn.lay F) g5 g8 (Zn.wLine F) (Zn.nLines F) wr from ⟨qv, v, rows, qs, ql, qt, qg, q58, qw5⟩)
      clear qv qs ql qt qg q58 qw5 hk hlt HBL
      obtain ⟨qv, v, rows, qs, ql, qt, qg, q58, qw5⟩ := HBN.out
      have HBD := Lib.hid (show BD w z (Zn.lay F) g5 g8 F (fun i => List.replicate (Zn.wd F i) 60) wr from ⟨qv, rows, ⟨v, qs, ql, Nat.lt_succ_self g8⟩, by rw [qt]; exact (Zn.asm_fill F HF1.out).symm, q58, qw5⟩)
      clear qs ql qt qg q58 qw5 HBN
      obtain ⟨x0, x1, x2, x3, x4, x5, x6, x7, x8, x9, x10, x11⟩ := qv.1.cells
      have y8 : wr.cell? ⟨g5, 8, none⟩ = some (.int .i64 (Zn.wd F 2)) := (qv.2.1.cell 8).trans (Zn.lay_at F HF1.out 2 (by omega)).2.2
      have HNM := Lib.hid (onames_any z.sur z.giv (Zn.wd F 2) wr (HDX.out.2.below qv.2.2) HAB.out)
      obtain ⟨NV, hNV⟩ : ∃ q : ByteArray, q = ⟨(Opt.nmV z.sur.data.toList z.giv.data.toList (Zn.wd F 2)).toArray⟩ := ⟨_, rfl⟩
      rw [← hNV] at HNM
      have HNV := Lib.hid hNV
      clear qv hNV
      go_wp2_with fail
      refine HNM.out.mono ?_; rintro e wn ⟨rfl, hb⟩
      have HBD2 := Lib.hid (HBD.out.later hb)
      clear hb HBD x0 x1 x2 x3 x4 x5 x6 x7 x8 x9 x10 x11 y8
      have HMS := Lib.hid (show ∀ i, (mtxt ⟨w.heap.size, z, NV, Opt.digS z.birth, Opt.digS z.exp⟩ i).size ≤ 140737488355328 from by
        have hf := HFIT.out
        have hn : NV.size ≤ 140737488355328 := by
          have h := nmV_len z.sur.data.toList z.giv.data.toList (Zn.wd F 2)
          have e : NV.size = (Opt.nmV z.sur.data.toList z.giv.data.toList (Zn.wd F 2)).length := by rw [HNV.out]; simp [ByteArray.size]
          have := zwd_le F HF1.out
          omega
        have hd : ∀ s, (Opt.digS s).size ≤ 140737488355328 := fun s => by unfold Opt.digS; split <;> exact Nat.le_of_ble_eq_true rfl
        intro i
        unfold Zn.Z.fits at hf
        unfold mtxt
        split <;> first | (dsimp only; omega) | exact hn | exact hd _ | exact Nat.le_of_ble_eq_true rfl)
      obtain ⟨MM, hMM⟩ : ∃ q : MP, q = ⟨w.heap.size, z, NV, Opt.digS z.birth, Opt.digS z.exp⟩ := ⟨_, rfl⟩
      rw [← hMM] at HMS
      have HMM := Lib.hid hMM
      clear hMM
      go_upto_region 11 with fail
      go_cut [81] from 58 to 80 (fun p wc => ∃ (mb r n cnt : Nat) (D : DataW Unit), p = .pointer (some ⟨r, 0, none⟩) ∧ wc.ranges Tryz.prog 3 (plainElem Tryz.prog 9) mb r n D (Maps.has D) cnt ∧ Below wn.heap.size wn wc ∧ wn.heap.size ≤ mb ∧ wn.heap.size ≤ r ∧
        (∀ k : Int, Maps.has D (.int .i64 k) = opsK.any fun i => decide (mkey i = some k)) ∧ ∀ i k, mkey i = some k → ∀ zd, D.atKey (.int .i64 k) zd = .lit (.string (mtxt MM i).data.toList))
      case first =>
        have hMM := HMM.out
        clear HMM
        subst hMM
        show Code.wp Tryz.prog (Code.region 11 opsMap true) _ _ _
        refine build_map ⟨w.heap.size, z, NV, Opt.digS z.birth, Opt.digS z.exp⟩ _ _ (Nat.le_of_ble_eq_true rfl) rfl rfl HBD2.out.1.1 (fun W => zdigit z.birth W (by have := Zn.birth_size HGD.out.birth; omega)) (fun W => zdigit z.exp W (by have := Zn.prE_size HGD.out.exp; omega)) ?c1 ?c2
        case c1 => exact fun i => Nat.le_trans (HMS.out i) (Nat.le_of_ble_eq_true rfl)
        case c2 =>
          intro a wm hd
          obtain ⟨mb, r, n, cnt, D, m1, m2, m3, m4, m5, m6, m7, m8, m9, m10⟩ := hd
          obtain ⟨u, rfl, hu⟩ := frame_known 58 24 m1 (Nat.le_of_ble_eq_true rfl) m2 (fun j hj => m3 j (by omega))
          have hu81 := hu 81 _ (by omega) (by omega) m4
          simp only [setMany, List.setIfInBounds_toArray, List.set_cons_succ, List.set_cons_zero, Nat.add_zero, Nat.reduceAdd]
          rw [hu81]
          go_wp2_with fail
          go_meet
          exact ⟨mb, r, n, cnt, D, rfl, m5, m6, m7, m8, m9, m10⟩
      case rest =>
        obtain ⟨mb, r, n, cnt, D, rfl, m5, m6, m7, m8, m9, m10⟩ := hcut
        obtain ⟨qv, rows, q1, q2, q3, q4⟩ := HBD2.out
        have hbm : BM w z g5 g8 F wn.heap.size (fun i => List.replicate (Zn.wd F i) 60) wc := BM.later ⟨qv.1, qv.2.1, qv.2.2, rows, q1, q2, fun k hk => (by
            obtain ⟨x, hx, rfl⟩ := List.mem_map.1 hk
            obtain ⟨v, _, hl, _⟩ := q1
            exact (hl.2.2 x hx).2.1), fun v hv b hb => (by
            obtain ⟨v', s1, s2, _⟩ := q1
            have e : v' = v := by
              have h1 := Option.some.inj ((show wn.heap[g8]? = _ from s1).symm.trans hv)
              injection h1 with h2
              exact (Array.push_eq_push.1 h2).1
            rw [← e] at hb
            rcases s2.1.2 with ⟨h0, _⟩ | ⟨b', c, cur, h0, _, h2, _⟩
            · rw [h0] at hb; simp [Value.ownBlock] at hb
            · rw [h0] at hb
              simp [Value.ownBlock] at hb
              rw [← hb]
              exact (Array.getElem?_eq_some_iff.1 h2).1), q3, q4, q1.lt⟩ m6
        rw [← mid_start MM F (Maps.has D) m9] at hbm
        obtain ⟨bnd, hbnd⟩ : ∃ q, wn.heap.size = q := ⟨_, rfl⟩
        rw [hbnd] at hbm m7 m8
        have HBM := Lib.hid hbm; have HMB := Lib.hid (And.intro m7 m8); have HKEY := Lib.hid m9; have HTXT := Lib.hid m10; have HRG := Lib.hid m5
        clear hbm m5 m6 m7 m8 m9 m10 qv q1 q2 q3 q4 hbnd HBD2
        go_wp2_with fail
        go_loopw [11] (fun _ wr => ∃ (left : Lit → Bool) (cnt' : Nat), wr.ranges Tryz.prog 3 (plainElem Tryz.prog 9) mb r n D left cnt' ∧ (∀ kl, left kl = true → Maps.has D kl = true) ∧ BM w z g5 g8 F bnd (midF MM F left) wr) (fun _ wr => wr.rangeLeft mb r)
        case atStart => exact ⟨_, _, HRG.out, fun _ h => h, HBM.out⟩
        case round =>
          obtain ⟨left, cnt', hrg, hlk, hbm⟩ := hrel
          have HBMr := Lib.hid hbm; have HLK := Lib.hid hlk
          clear hbm hlk HBM HRG
          go_wp2_with (first | (at_next; refine wpList_next_ranges_is _ rfl _ rfl 3 9 .i64 (int_keyed Tryz.underlying3) Tryz.underlying3 Tryz.underlying9 mb r n _ _ _ rfl hrg ?_ ?_))
          · intro hc0 hl0
            obtain rfl : left = fun _ => false := funext hl0
            obtain ⟨Fn, hFn⟩ : ∃ q, midF MM F (fun _ => false) = q := ⟨_, rfl⟩
            have hWd := mid_wide MM F fun _ => false
            have hbm := HBMr.out
            rw [hFn] at hbm hWd
            have HFN := Lib.hid hFn; have HWD := Lib.hid hWd
            have HB0 := Lib.hid hbm
            clear hFn hWd hbm hc0 hl0 HBMr hrg
            obtain ⟨x0, x1, x2, x3, x4, x5, x6, x7, x8, x9, x10, x11⟩ := HB0.out.1.cells
            go_upto_if 94 with fail
            go_cut [8] from 94 to 125 (fun p wq => p = .pointer (some ⟨g8, 0, none⟩) ∧ BM w z g5 g8 F bnd (numF z F Fn) wq)
            case first =>
              by_cases h9 : 9 < z.num.size
              · have e9 : (9 : Int) < (z.num.size : Int) := by omega
                have e9b : (9 : Int) ≤ (z.num.size : Int) := by omega
                have HN9 := Lib.hid h9
                have HX9 := Lib.hid (show (z.num.extract 0 9).size ≤ 140737488355328 from by rw [ByteArray.size_extract]; omega)
                have HP3 := Lib.hid (bm_put HB0.out HF1.out HWD.out 3 (by omega) (z.num.extract 0 9) HX9.out)
                have HW3 := Lib.hid (Zn.upd_wide HWD.out 3 (z.num.extract 0 9).data.toList)
                obtain ⟨F3, hF3⟩ : ∃ q, Zn.upd Fn 3 (Zn.wide_ (z.num.extract 0 9).data.toList (Zn.wd F 3)) = q := ⟨_, rfl⟩
                rw [hF3] at HP3 HW3
                have HF3 := Lib.hid hF3
                clear h9 hF3
                go_wp2_with fail
                refine HP3.out.mono ?_; rintro e wa ⟨rfl, hba, _⟩
                clear HP3 x0 x1 x2 x3 x4 x5 x6 x7 x8 x9 x10 x11
                have HBA := Lib.hid hba
                obtain ⟨x0, x1, x2, x3, x4, x5, x6, x7, x8, x9, x10, x11⟩ := hba.1.cells
                clear x0 x1 x2 x3 x4 x6 x7 x8 x9 x11 hba
                have HD3 := Lib.hid (fun W => zdigit z.num W (by have := HGD.out.numLe20; omega))
                obtain ⟨D3, hD3⟩ : ∃ q : ByteArray, Opt.digS z.num = q := ⟨_, rfl⟩
                have hds : D3.size ≤ 1 := by rw [← hD3]; exact digS_one _
                rw [hD3] at HD3
                have HD3E := Lib.hid hD3
                have hex : (z.num.extract 9 z.num.size).size ≤ 20 := by rw [ByteArray.size_extract]; have := HGD.out.numLe20; omega
                have hop := HGD.out.optLe
                obtain ⟨X9, hx9⟩ : ∃ q : ByteArray, z.num.extract 9 z.num.size = q := ⟨_, rfl⟩
                rw [hx9] at hex
                have s1 : ¬ (9223372036854775807 < X9.size + D3.size) := by omega
                have s2 : ¬ (9223372036854775807 < X9.size + D3.size + 1) := by omega
                have s3 : ¬ (9223372036854775807 < X9.size + D3.size + 1 + z.opt.size) := by omega
                have HSZ9 := Lib.hid (show (X9 ++ D3 ++ ⟨#[60]⟩ ++ z.opt).size ≤ 140737488355328 by rw [ByteArray.size_append, ByteArray.size_append, ByteArray.size_append]; have : (⟨#[60]⟩ : ByteArray).size = 1 := rfl; omega)
                have HP11 := Lib.hid (fun W (hW : BM w z g5 g8 F bnd F3 W) => bm_put hW HF1.out HW3.out 11 (by omega) (X9 ++ D3 ++ ⟨#[60]⟩ ++ z.opt) HSZ9.out)
                have HX9 := Lib.hid hx9
                clear hD3 hds hex hop
                go_wp2_with fail
                (refine wp_region_held_drew (S := (fun W => W.cell? ⟨w.heap.size, 5, none⟩ = some (.string z.num) ∧ W.cell? ⟨w.heap.size, 10, none⟩ = some (.string z.opt))) (by kernel_rfl) (show _ ∧ _ from ⟨x5, x10⟩) (fun hHeld => ?_))
                ((first | (refine tkI 0 ?_ (hy := ?_) (h := ?_); rotate_left 1; · (intro w hSw; (try dsimp only at hSw); go_simp; (try with_reducible rfl))) | (refine tkN 0 (h := ?_))); (try simp only [Act.put, List.setIfInBounds_toArray, List.set_cons_zero, List.set_cons_succ]))
                ((first | (refine tkI 1 ?_ (hy := ?_) (h := ?_); rotate_left 1; · (intro w hSw; (try dsimp only at hSw); go_simp; (try with_reducible rfl))) | (refine tkN 1 (h := ?_))); (try simp only [Act.put, List.setIfInBounds_toArray, List.set_cons_zero, List.set_cons_succ]))
                ((first | (refine tkI 2 ?_ (hy := ?_) (h := ?_); rotate_left 1; · (intro w hSw; (try dsimp only at hSw); go_simp; (try with_reducible rfl))) | (refine tkN 2 (h := ?_))); (try simp only [Act.put, List.setIfInBounds_toArray, List.set_cons_zero, List.set_cons_succ]))
                ((first | (refine tkI 3 ?_ (hy := ?_) (h := ?_); rotate_left 1; · (intro w hSw; (try dsimp only at hSw); go_simp; (try with_reducible rfl))) | (refine tkN 3 (h := ?_))); (try simp only [Act.put, List.setIfInBounds_toArray, List.set_cons_zero, List.set_cons_succ]))
                ((first | (refine tkI 4 ?_ (hy := ?_) (h := ?_); rotate_left 1; · (intro w hSw; (try dsimp only at hSw); go_simp; (try with_reducible rfl))) | (refine tkN 4 (h := ?_))); (try simp only [Act.put, List.setIfInBounds_toArray, List.set_cons_zero, List.set_cons_succ]))
                ((first | (refine tkI 5 ?_ (hy := ?_) (h := ?_); rotate_left 1; · (intro w hSw; (try dsimp only at hSw); go_simp; (try with_reducible rfl))) | (refine tkN 5 (h := ?_))); (try simp only [Act.put, List.setIfInBounds_toArray, List.set_cons_zero, List.set_cons_succ]))
                ((first | (refine tkI 9 ?_ (hy := ?_) (h := ?_); rotate_left 1; · (intro w hSw; (try dsimp only at hSw); go_simp; (try with_reducible rfl))) | (refine tkN 9 (h := ?_))); (try simp only [Act.put, List.setIfInBounds_toArray, List.set_cons_zero, List.set_cons_succ]))
                ((first | (refine tkI 10 ?_ (hy := ?_) (h := ?_); rotate_left 1; · (intro w hSw; (try dsimp only at hSw); go_simp; (try with_reducible rfl))) | (refine tkN 10 (h := ?_))); (try simp only [Act.put, List.setIfInBounds_toArray, List.set_cons_zero, List.set_cons_succ]))
                (refine wpAnyH_ready (rs := [6]) (by kernel_rfl) (by simp) ?_; refine AllReadyH.cons (by simp only [List.getElem?_toArray, List.getElem?_cons_succ, List.getElem?_cons_zero]; rfl) (fun K hK => ?_) AllReadyH.nil; go_simp; go_at_call 48; refine (HD3.out _).mono ?_; rintro e w5 ⟨rfl, hb4⟩; have HB5 := Lib.hid (HBA.out.later (below_undrew hb4)); refine hK.out _ _ (⟨cell_later hb4 hHeld.1, cell_later hb4 hHeld.2⟩) (fun hHeld => ?_); clear hK K; (try simp only [Act.put, List.setIfInBounds_toArray, List.set_cons_zero, List.set_cons_succ]))
                ((first | (refine tkI 7 ?_ (hy := ?_) (h := ?_); rotate_left 1; · (intro w hSw; (try dsimp only at hSw); go_simp; (try with_reducible rfl))) | (refine tkN 7 (h := ?_))); (try simp only [Act.put, List.setIfInBounds_toArray, List.set_cons_zero, List.set_cons_succ]))
                ((first | (refine tkI 8 ?_ (hy := ?_) (h := ?_); rotate_left 1; · (intro w hSw; (try dsimp only at hSw); go_simp; (try with_reducible rfl))) | (refine tkN 8 (h := ?_))); (try simp only [Act.put, List.setIfInBounds_toArray, List.set_cons_zero, List.set_cons_succ]))
                ((first | (refine tkI 11 ?_ (hy := ?_) (h := ?_); rotate_left 1; · (intro w hSw; (try dsimp only at hSw); go_simp; (try with_reducible rfl))) | (refine tkN 11 (h := ?_))); (try simp only [Act.put, List.setIfInBounds_toArray, List.set_cons_zero, List.set_cons_succ]))
                (refine wpAnyH_ready (rs := [12]) (by kernel_rfl) (by simp) ?_; refine AllReadyH.cons (by simp only [List.getElem?_toArray, List.getElem?_cons_succ, List.getElem?_cons_zero]; rfl) (fun K hK => ?_) AllReadyH.nil; go_simp; go_at_call 49; refine (HP11.out _ HB5.out).mono ?_; rintro e w6 ⟨rfl, hbf, _⟩; have HBF := Lib.hid hbf; have hcc := hbf.1.cells; clear hbf; refine hK.out _ _ (⟨hcc.2.2.2.2.2.1, hcc.2.2.2.2.2.2.2.2.2.2.1⟩) (fun hHeld => ?_); clear hK K; (try simp only [Act.put, List.setIfInBounds_toArray, List.set_cons_zero, List.set_cons_succ]))
                (refine wpAnyH_done (by kernel_rfl) ?_ _)
                go_wp2_with fail
                go_meet
                refine ⟨rfl, ?_⟩
                have hh := HBF.out
                unfold numF
                rw [if_pos HN9.out, HF3.out, HD3E.out, HX9.out]
                exact hh
              · have e9 : ¬ ((9 : Int) < (z.num.size : Int)) := by omega
                have HN9 := Lib.hid h9
                have HP3 := Lib.hid (bm_put HB0.out HF1.out HWD.out 3 (by omega) z.num (HFIT.out.2.2.2.2.1))
                have HW3 := Lib.hid (Zn.upd_wide HWD.out 3 z.num.data.toList)
                obtain ⟨F3, hF3⟩ : ∃ q, Zn.upd Fn 3 (Zn.wide_ z.num.data.toList (Zn.wd F 3)) = q := ⟨_, rfl⟩
                rw [hF3] at HP3 HW3
                have HF3 := Lib.hid hF3
                clear h9 hF3
                go_wp2_with fail
                refine HP3.out.mono ?_; rintro e wa ⟨rfl, hba, _⟩
                clear HP3 x0 x1 x2 x3 x4 x5 x6 x7 x8 x9 x10 x11
                have HG3 := Lib.hid (bm_get hba HF1.out HW3.out 3 (by omega))
                obtain ⟨G3, hG3⟩ : ∃ q : ByteArray, (⟨(F3 3).toArray⟩ : ByteArray) = q := ⟨_, rfl⟩
                rw [hG3] at HG3
                have HGS := Lib.hid (show G3.size ≤ 140737488351232 by rw [← hG3]; exact fld_small HW3.out 3 (zwd_3 F HF1.out))
                have HG3E := Lib.hid hG3
                clear hba hG3
                go_wp2_with fail
                refine HG3.out.mono ?_; rintro e wb ⟨rfl, hbb⟩
                clear HG3
                have HBB := Lib.hid hbb
                have HD3 := Lib.hid (zdigit G3 wb HGS.out)
                obtain ⟨D3, hD3⟩ : ∃ q : ByteArray, Opt.digS G3 = q := ⟨_, rfl⟩
                have HDS := Lib.hid (show D3.size ≤ 140737488355328 by rw [← hD3]; exact digS_le _)
                rw [hD3] at HD3
                have HD3E := Lib.hid hD3
                clear hbb hD3
                go_wp2_with fail
                refine HD3.out.mono ?_; rintro e wd ⟨rfl, hbd⟩
                clear HD3
                have HBD3 := Lib.hid (HBB.out.later hbd)
                have HP4 := Lib.hid (bm_put HBD3.out HF1.out HW3.out 4 (by omega) D3 HDS.out)
                have HW4 := Lib.hid (Zn.upd_wide HW3.out 4 D3.data.toList)
                obtain ⟨F4, hF4⟩ : ∃ q, Zn.upd F3 4 (Zn.wide_ D3.data.toList (Zn.wd F 4)) = q := ⟨_, rfl⟩
                rw [hF4] at HP4 HW4
                have HF4 := Lib.hid hF4
                clear hbd hF4
                go_wp2_with fail
                refine HP4.out.mono ?_; rintro e we ⟨rfl, hbe, _⟩
                clear HP4
                obtain ⟨x0, x1, x2, x3, x4, x5, x6, x7, x8, x9, x10, x11⟩ := hbe.1.cells
                have HP11 := Lib.hid (bm_put hbe HF1.out HW4.out 11 (by omega) z.opt HFIT.out.2.2.2.2.2.2.2.2.2.1)
                obtain ⟨F5, hF5⟩ : ∃ q, Zn.upd F4 11 (Zn.wide_ z.opt.data.toList (Zn.wd F 11)) = q := ⟨_, rfl⟩
                rw [hF5] at HP11
                have HF5 := Lib.hid hF5
                clear hbe hF5
                go_wp2_with fail
                refine HP11.out.mono ?_; rintro e wf ⟨rfl, hbf, _⟩
                have HBF := Lib.hid (show BM w z g5 g8 F bnd (numF z F Fn) wf by
                  unfold numF
                  rw [if_neg HN9.out, HF3.out, HG3E.out, HD3E.out, HF4.out, HF5.out]
                  exact hbf)
                clear hbf
                go_wp2_with fail
                go_meet
                exact ⟨rfl, HBF.out⟩
            case rest =>
              obtain ⟨rfl, hcut⟩ := hcut
              have HB5 := Lib.hid hcut
              have HW5 := Lib.hid (numF_wide (z := z) HWD.out)
              obtain ⟨N5, hN5⟩ : ∃ q, numF z F Fn = q := ⟨_, rfl⟩
              rw [hN5] at HB5 HW5
              have HN5 := Lib.hid hN5
              clear hcut hN5
              obtain ⟨x0, x1, x2, x3, x4, x5, x6, x7, x8, x9, x10, x11⟩ := HB5.out.1.cells
              go_upto_if 128 with fail
              go_cut [8] from 128 to 133 (fun p wq => p = .pointer (some ⟨g8, 0, none⟩) ∧ BM w z g5 g8 F bnd (optF z F N5) wq)
              case first =>
                by_cases ho : z.opt.size = 0
                · obtain ⟨e2, e3, e4⟩ := (empty_is2 z.opt).1 ho
                  have HO := Lib.hid ho
                  rw [e3]
                  clear ho e2 e3 e4
                  go_wp2_with fail
                  go_meet
                  have hh := HB5.out
                  unfold optF
                  rw [if_pos HO.out]
                  exact ⟨rfl, hh⟩
                · obtain ⟨e2, e3, e4⟩ := (empty_is2 z.opt).2 ho
                  have HO := Lib.hid ho
                  have HG3 := Lib.hid (fun W (hW : BM w z g5 g8 F bnd N5 W) => bm_get hW HF1.out HW5.out 11 (by omega))
                  obtain ⟨G3, hG3⟩ : ∃ q : ByteArray, (⟨(N5 11).toArray⟩ : ByteArray) = q := ⟨_, rfl⟩
                  rw [hG3] at HG3
                  have HGS := Lib.hid (show G3.size ≤ 140737488351232 by rw [← hG3]; exact fld_small HW5.out 11 (zwd_11 F HF1.out))
                  have HG3E := Lib.hid hG3
                  rw [e3]
                  clear ho hG3 e2 e3 e4
                  go_wp2_with fail
                  refine (HG3.out _ HB5.out).mono ?_; rintro e wb ⟨rfl, hbb⟩
                  clear HG3 x0 x1 x2 x3 x4 x5 x6 x7 x8 x9 x10 x11
                  have HBB := Lib.hid hbb
                  have HD3 := Lib.hid (zdigit G3 wb HGS.out)
                  obtain ⟨D3, hD3⟩ : ∃ q : ByteArray, Opt.digS G3 = q := ⟨_, rfl⟩
                  have HDS := Lib.hid (show D3.size ≤ 140737488355328 by rw [← hD3]; exact digS_le _)
                  rw [hD3] at HD3
                  have HD3E := Lib.hid hD3
                  clear hbb hD3
                  go_wp2_with fail
                  refine HD3.out.mono ?_; rintro e wd ⟨rfl, hbd⟩
                  clear HD3
                  have HBD3 := Lib.hid (HBB.out.later hbd)
                  have HP4 := Lib.hid (bm_put HBD3.out HF1.out HW5.out 12 (by omega) D3 HDS.out)
                  obtain ⟨F4, hF4⟩ : ∃ q, Zn.upd N5 12 (Zn.wide_ D3.data.toList (Zn.wd F 12)) = q := ⟨_, rfl⟩
                  rw [hF4] at HP4
                  have HF4 := Lib.hid hF4
                  clear hbd hF4
                  go_wp2_with fail
                  refine HP4.out.mono ?_; rintro e we ⟨rfl, hbe, _⟩
                  have HBF := Lib.hid (show BM w z g5 g8 F bnd (optF z F N5) we by
                    unfold optF
                    rw [if_neg HO.out, HG3E.out, HD3E.out, HF4.out]
                    exact hbe)
                  clear hbe
                  go_wp2_with fail
                  go_meet
                  exact ⟨rfl, HBF.out⟩
              case rest =>
                obtain ⟨rfl, hcut⟩ := hcut
                have HB6 := Lib.hid hcut
                have HW6 := Lib.hid (optF_wide (z := z) HW5.out)
                obtain ⟨N6, hN6⟩ : ∃ q, optF z F N5 = q := ⟨_, rfl⟩
                rw [hN6] at HB6 HW6
                have HN6 := Lib.hid hN6
                clear hcut hN6
                have HCM := Lib.hid (bm_comp HB6.out HF1.out HW6.out)
                obtain ⟨G3, hG3⟩ : ∃ q : ByteArray, (⟨(Zn.comp F (Zn.asm F N6)).toArray⟩ : ByteArray) = q := ⟨_, rfl⟩
                rw [hG3] at HCM
                have HGS := Lib.hid (show G3.size ≤ 140737488351232 by rw [← hG3]; exact comp_small HF1.out HW6.out)
                have HG3E := Lib.hid hG3
                clear hG3 x0 x1 x2 x3 x4 x5 x6 x7 x8 x9 x10 x11
                go_wp2_with fail
                refine HCM.out.mono ?_; rintro e wg ⟨rfl, hbg⟩
                clear HCM
                have HBG := Lib.hid hbg
                have HD3 := Lib.hid (zdigit G3 wg HGS.out)
                obtain ⟨D3, hD3⟩ : ∃ q : ByteArray, Opt.digS G3 = q := ⟨_, rfl⟩
                have HDS := Lib.hid (show D3.size ≤ 140737488355328 by rw [← hD3]; exact digS_le _)
                rw [hD3] at HD3
                have HD3E := Lib.hid hD3
                clear hbg hD3
                go_wp2_with fail
                refine HD3.out.mono ?_; rintro e wh ⟨rfl, hbh⟩
                clear HD3
                have HBH := Lib.hid (HBG.out.later hbh)
                have HP14 := Lib.hid (bm_put HBH.out HF1.out HW6.out 14 (by omega) D3 HDS.out)
                have HW7 := Lib.hid (Zn.upd_wide HW6.out 14 D3.data.toList)
                obtain ⟨F7, hF7⟩ : ∃ q, Zn.upd N6 14 (Zn.wide_ D3.data.toList (Zn.wd F 14)) = q := ⟨_, rfl⟩
                rw [hF7] at HP14 HW7
                have HF7 := Lib.hid hF7
                clear hbh hF7
                go_wp2_with fail
                refine HP14.out.mono ?_; rintro e wi ⟨rfl, hbi, _⟩
                have HEND := Lib.hid (show F7 = Zn.bldF F z from by
                  rw [← HF7.out, ← HD3E.out, ← HG3E.out, ← HN6.out, ← HN5.out, ← HFN.out, HMM.out, HNV.out]; rfl)
                obtain ⟨rows, hsa, hrt, _⟩ := hbi.2.2.2
                obtain ⟨v, hs, hl, _⟩ := hsa
                have hS := Zn.asm_len F HF1.out F7 HW7.out
                rw [← hrt] at hS
                have c45 := hs.last
                rw [hsz] at c45
                have hrl : rows.length = Zn.nLines F := by have := hS.1; unfold Ln.txt at this; rwa [List.length_map] at this
                have hnl2 : 2 ≤ Zn.nLines F := by unfold Zn.nLines; split <;> omega
                obtain ⟨b, c, rfl, hb1, hb2, hc1, hc2, hline⟩ := hl.line (by omega)
                have hwi := hbi.2.2.1.size
                have HBW := Lib.hid hbi.2.2.1
                have HLN := Lib.hid hline; have HRT := Lib.hid hrt; have HS7 := Lib.hid hS
                have hr3 : rows.length ≤ 3 := by omega
                clear hbi hs hl hline hrt hS hrl hnl2
                go_wp2_with fail
                obtain ⟨j0, hj0, jz0, jz1, jz2⟩ := info_parts Tryz.infoS
                have HCAP := Lib.hid (And.intro hb1 (And.intro hc1 hc2))
                go_loopw [13, 144, 15] (fun o i _ wr => ∃ k : Nat, k ≤ rows.length ∧ i = .int .i64 k ∧ wr.ownsRow wi.heap.size 9 1 o k ((rows.take k).map fun r => Value.string ⟨r.2.2.toArray⟩) ∧ Below wi.heap.size wi wr) (fun _ i _ _ => rows.length - (intOf i).toNat)
                case atStart => exact ⟨0, Nat.zero_le _, rfl, World.ownsRow_nil _ _ _ _, Below.refl _ _⟩
                case round =>
                  obtain ⟨k, hk, rfl, hown, hbw⟩ := hrel
                  by_cases hlt : k < rows.length
                  · obtain ⟨hcell, hbytes, hcap, hblk⟩ := HLN.out k hlt
                    obtain ⟨r, hr⟩ : ∃ q, rows[k]'hlt = q := ⟨_, rfl⟩
                    rw [hr] at hcell hbytes hcap hblk
                    have hll : r.2.2.length ≤ 44 := by
                      have := HS7.out.2 r.2.2 (by unfold Ln.txt; exact List.mem_map.2 ⟨_, List.getElem_mem hlt, by rw [hr]⟩)
                      omega
                    have ck := cell_later hbw hcell
                    have hcv := drop_bytes (P := Tryz.prog) (hbytes.later hbw hblk) 0 r.2.2.length (by omega) r.2.1 41 9 5 Tryz.underlying41 Tryz.underlying5 Tryz.underlying9
                    rw [List.drop_zero, List.take_length] at hcv
                    have hts : (rows.take (k + 1)).map (fun r => Value.string ⟨r.2.2.toArray⟩) = (rows.take k).map (fun r => Value.string ⟨r.2.2.toArray⟩) ++ [Value.string ⟨r.2.2.toArray⟩] := by
                      rw [List.take_succ_eq_append_getElem hlt, List.map_append, hr]; rfl
                    obtain ⟨T, hT⟩ : ∃ q : ByteArray, (⟨r.2.2.toArray⟩ : ByteArray) = q := ⟨_, rfl⟩
                    rw [hT] at hcv hts
                    have HTS := Lib.hid hts
                    have hi : (k : Int) < (rows.length : Int) := by omega
                    have HLT := Lib.hid hlt
                    have HOWN := Lib.hid hown
                    have HBWR := Lib.hid hbw
                    unfold Ln.val at ck
                    clear hr hts hT hcell hbytes hcap hblk hown hk hbw
                    go_wp2_with (at_builtin; refine wpList_append_own _ rfl _ _ 22 rfl wi.heap.size 9 j0 (.string ⟨#[]⟩) 1 16 Tryz.underlying22 hj0 jz0 jz1 jz2 rfl (by decide) _ _ _ rfl (HOWN.out.alloc _) ⟨wr.heap.size, 0, none⟩ 1 1 [.string T] rfl rfl (cell_one_new _ _ _) (by intro u hu; simp at hu; subst hu; rfl) (by unfold maxLen; omega) (by omega) (by have := HBWR.out.size; simp; omega) ?_; intro v' w9 hown1 hg1 _)
                    have HO1 := Lib.hid hown1
                    have HB9 := Lib.hid (build_grow HBWR.out HOWN.out (.cells #[.string T] 9) hg1)
                    clear hown1 hg1
                    go_wp2_with fail
                    go_roundw
                    case rel => exact ⟨k + 1, by have := HLT.out; omega, by go_num, by rw [HTS.out]; exact HO1.out, HB9.out⟩
                    case measure => have := HLT.out; simp [intOf]; omega
                  · obtain rfl : k = rows.length := by omega
                    have hi : (rows.length : Int) ≤ (rows.length : Int) := by omega
                    have HOWN := Lib.hid (build_own HBW.out hown (Zn.bld_of HEND.out HRT.out HFF.out))
                    have HBX := Lib.hid (HBW.out.trans (hbw.mono hwi))
                    clear hown hbw hlt hk
                    go_wp2_with fail
                    go_ret2
                    exact BldPost.yes HVE.out HOWN.out HBX.out
          · intro x c w1 cnt1 hwx hwc hlx hat hrg1 hlt hg1 hs1 hen
            have hx := HLK.out _ hlx
            rw [HKEY.out] at hx
            obtain ⟨o, ho, hox⟩ := List.any_eq_true.1 hx
            have hox := of_decide_eq_true hox
            obtain ⟨i, rfl, hi⟩ := mkey_nat hox
            have hcc := (hat (.nil)).symm.trans (HTXT.out o _ hox _)
            injection hcc with hcc
            injection hcc with hcc
            obtain rfl : c = mtxt MM o := by
              cases c; rename_i a; cases hm : mtxt MM o; rename_i b
              rw [hm] at hcc
              exact congrArg ByteArray.mk (Array.toList_inj.1 hcc)
            have HBM1 := Lib.hid (HBMr.out.beyond hg1 HMB.out.2)
            have HPUT := Lib.hid (bm_put HBM1.out HF1.out (mid_wide MM F left) i hi (mtxt MM o) (HMS.out o))
            rw [← mid_step MM F left hox] at HPUT
            have HL1 := Lib.hid (show ∀ kl, (left kl && !kl.sameKey (.int .i64 (i : Int))) = true → Maps.has D kl = true from fun kl h => HLK.out kl (Bool.and_eq_true_iff.1 h).1)
            have HLT := Lib.hid (show w1.rangeLeft mb r < wr.rangeLeft mb r from by rw [hrg1.left_eq, hrg.left_eq]; exact hlt)
            have HRG1 := Lib.hid hrg1
            clear hx ho hox hcc hat hlt hg1 hs1 hrg1 hrg hlx
            go_wp2_with fail
            refine HPUT.out.mono ?_; rintro e w2 ⟨rfl, hb2, k, hk1, hk2, hg2⟩
            have hrg2 := HRG1.out.kept hg2 (by have := HMB.out.1; simp; omega) (by have := HMB.out.2; simp; omega)
            have HRG2 := Lib.hid hrg2
            have HBM2 := Lib.hid hb2
            have HLT2 := Lib.hid (show w2.rangeLeft mb r < wr.rangeLeft mb r from by rw [hrg2.left_eq, ← HRG1.out.left_eq]; exact HLT.out)
            clear hrg2 hb2 hg2 hk1 hk2
            go_wp2_with fail
            go_roundw
            case rel => exact ⟨_, _, HRG2.out, HL1.out, HBM2.out⟩
            case measure => exact HLT2.out
end Go.Proofs.YtelngghecmkipaaGreatDoor
