/- Chapter 11: the walks of both Keys, and of the reference's Build whole. -/
import Derived.Test.YtelngghecmkipaaGreatDoorZonRBld
import Derived.IntWalk
namespace Go.Proofs.YtelngghecmkipaaGreatDoor
open Go.RowKit
namespace Zn
/-- The key. -/
noncomputable def keyS (z : Z) : ByteArray := if vldE z = 0 then ckS (wS z.num 9) ++ ckS z.birth ++ ckS z.exp else ⟨#[]⟩
theorem fits_max {z : Z} (h : z.fits 140737488355328) : z.fits maxLen := by unfold Z.fits at *; unfold maxLen; omega
theorem ckS_le (s : ByteArray) : (ckS s).size ≤ s.size + 1 := by unfold ckS; rw [ByteArray.size_append]; have := digS_one s; omega
theorem key_eq {z : Z} {mx : Int} {RP NN DN DB DX : ByteArray} (h1 : max (0 : Int) (9 - (z.num.size : Int)) = mx) (h2 : (⟨(List.replicate mx.toNat (60 : UInt8)).toArray⟩ : ByteArray) = RP) (h3 : z.num ++ RP = NN)
    (h4 : Opt.digS NN = DN) (h5 : Opt.digS z.birth = DB) (h6 : Opt.digS z.exp = DX) : ckS (wS z.num 9) ++ ckS z.birth ++ ckS z.exp = NN ++ DN ++ z.birth ++ DB ++ z.exp ++ DX := by
  have hm : mx.toNat = 9 - z.num.size := by rw [← h1]; omega
  have hN : wS z.num 9 = NN := by
    refine bl_ext ?_
    rw [← h3, bl_app, ← h2, hm]; rfl
  unfold ckS
  rw [hN, h4, h5, h6]
  refine bl_ext ?_
  simp only [bl_app, List.append_assoc]
end Zn
/-- What Key leaves. -/
def KeyPost (z : Zn.Z) (w : World) (e : Ending) (w' : World) : Prop := e = .returned (.tuple #[.string (Zn.keyS z), .int .i64 (Zn.vldE z)]) ∧ Below w.heap.size w w'
theorem KeyPost.no {z : Zn.Z} {w w' : World} {vE : Int} (h : vE ≠ 0) (hE : Zn.vldE z = vE) (hb : Below w.heap.size w w') : KeyPost z w (.returned (.tuple #[.string ⟨#[]⟩, .int .i64 vE])) w' :=
  ⟨by unfold Zn.keyS; rw [hE, if_neg h], hb⟩
theorem KeyPost.yes {z : Zn.Z} {w w' : World} {K : ByteArray} (hE : Zn.vldE z = 0) (hK : Zn.ckS (Zn.wS z.num 9) ++ Zn.ckS z.birth ++ Zn.ckS z.exp = K) (hb : Below w.heap.size w w') : KeyPost z w (.returned (.tuple #[.string K, .int .i64 0])) w' :=
  ⟨by unfold Zn.keyS; rw [hE, if_pos rfl, hK], hb⟩
set_option maxRecDepth 100000 in
set_option maxHeartbeats 4000000 in
theorem rkey (z : Zn.Z) (w : World) (hz : z.fits 140737488355328) :
    Calls Tryz.prog 22 #[z.val] w (KeyPost z w) := by
  have HVV := Lib.hid (show ∀ W, Calls Tryz.prog 24 #[.agg #[.int .i64 z.fmt, .string z.kind, .string z.state, .string z.sur, .string z.giv, .string z.num, .string z.nat, .string z.birth, .string z.sex, .string z.exp, .string z.opt, .string z.sec]] W fun e w' => e = .returned (.int .i64 (Zn.vldE z)) ∧ Below W.heap.size W w' from fun W => rvalidZ z W (Zn.fits_max hz))
  obtain ⟨vE, hvE⟩ : ∃ q, Zn.vldE z = q := ⟨_, rfl⟩
  rw [hvE] at HVV
  have HVE := Lib.hid hvE
  have hb1 := below_alloc1 w (.cells #[.int .i64 z.fmt, .string z.kind, .string z.state, .string z.sur, .string z.giv, .string z.num, .string z.nat, .string z.birth, .string z.sex, .string z.exp, .string z.opt, .string z.sec] 24)
  have hbx := zbox_new_at w z z.fmt rfl
  clear hvE hz
  unfold Zn.Z.val
  go_enter Tryz.func22, Tryz.ntmps22
  go_upto_region 1 with fail
  generalize w.alloc (.cells #[.int .i64 z.fmt, .string z.kind, .string z.state, .string z.sur, .string z.giv, .string z.num, .string z.nat, .string z.birth, .string z.sex, .string z.exp, .string z.opt, .string z.sec] 24) = w1 at hb1 hbx ⊢
  have HB1 := Lib.hid hb1; have HX := Lib.hid hbx
  clear hb1 hbx
  obtain ⟨g1, hg1⟩ : ∃ q, w.heap.size = q := ⟨_, rfl⟩
  rw [hg1] at HX ⊢
  have HG1 := Lib.hid hg1
  clear hg1
  obtain ⟨x0, x1, x2, x3, x4, x5, x6, x7, x8, x9, x10, x11⟩ := HX.out
  go_wp2_with fail
  refine (HVV.out _).mono ?_; rintro e w2 ⟨rfl, hb2⟩
  have HBL := Lib.hid (HB1.out.trans (hb2.mono HB1.out.size))
  have hHeld := zcells_later hb2 HX.out
  clear hb2 HB1 HX x0 x1 x2 x3 x4 x5 x6 x7 x8 x9 x10 x11
  by_cases hE : vE ≠ 0
  · have e1 : (vE != 0) = true := by rw [bne_iff_ne]; exact hE
    have HE' := Lib.hid hE
    clear hE
    go_wp2_with fail
    go_ret2
    exact KeyPost.no HE'.out HVE.out HBL.out
  obtain rfl : vE = 0 := by omega
  have HGD := Lib.hid (Zn.good_of HVE.out)
  clear hE
  have HKW := Lib.hid (fun W => rwideS z.num 9 W (by omega))
  obtain ⟨KW, hKW⟩ : ∃ q : ByteArray, Zn.wS z.num 9 = q := ⟨_, rfl⟩
  rw [hKW] at HKW
  have E_KW := Lib.hid hKW
  have zKW : KW.size ≤ 29 := by rw [← hKW]; have := Zn.wS_le z.num 9; have := HGD.out.numLe20; omega
  clear hKW
  have HCN := Lib.hid (fun W => rchecked KW W (by omega))
  obtain ⟨CN, hCN⟩ : ∃ q : ByteArray, Zn.ckS KW = q := ⟨_, rfl⟩
  rw [hCN] at HCN
  have E_CN := Lib.hid hCN
  have zCN : CN.size ≤ 30 := by rw [← hCN]; have := Zn.ckS_le KW; omega
  clear hCN
  have HCB := Lib.hid (fun W => rchecked z.birth W (by have := Zn.birth_size HGD.out.birth; omega))
  obtain ⟨CB, hCB⟩ : ∃ q : ByteArray, Zn.ckS z.birth = q := ⟨_, rfl⟩
  rw [hCB] at HCB
  have E_CB := Lib.hid hCB
  have zCB : CB.size ≤ 7 := by rw [← hCB]; have := HGD.out.db_size; omega
  clear hCB
  have HCE := Lib.hid (fun W => rchecked z.exp W (by have := Zn.prE_size HGD.out.exp; omega))
  obtain ⟨CE, hCE⟩ : ∃ q : ByteArray, Zn.ckS z.exp = q := ⟨_, rfl⟩
  rw [hCE] at HCE
  have E_CE := Lib.hid hCE
  have zCE : CE.size ≤ 7 := by rw [← hCE]; have := HGD.out.de_size; omega
  clear hCE
  have s2 : ¬ (9223372036854775807 < CN.size + CB.size) := by omega
  have s3 : ¬ (9223372036854775807 < CN.size + CB.size + CE.size) := by omega
  go_wp2_with fail
  (refine wp_region_held_drew (S := (fun W => W.cell? ⟨g1, 0, none⟩ = some (.int .i64 z.fmt) ∧ W.cell? ⟨g1, 1, none⟩ = some (.string z.kind) ∧ W.cell? ⟨g1, 2, none⟩ = some (.string z.state) ∧ W.cell? ⟨g1, 3, none⟩ = some (.string z.sur) ∧ W.cell? ⟨g1, 4, none⟩ = some (.string z.giv) ∧ W.cell? ⟨g1, 5, none⟩ = some (.string z.num) ∧ W.cell? ⟨g1, 6, none⟩ = some (.string z.nat) ∧ W.cell? ⟨g1, 7, none⟩ = some (.string z.birth) ∧ W.cell? ⟨g1, 8, none⟩ = some (.string z.sex) ∧ W.cell? ⟨g1, 9, none⟩ = some (.string z.exp) ∧ W.cell? ⟨g1, 10, none⟩ = some (.string z.opt) ∧ W.cell? ⟨g1, 11, none⟩ = some (.string z.sec))) (by kernel_rfl) (hHeld) (fun hHeld => ?_))
  ((first | (refine wpAnyH_take (i := 0) (v := ?_) (by simp only [List.getElem?_toArray, List.getElem?_cons_zero]; rfl) (by kernel_rfl) (by kernel_rfl) (by kernel_rfl) (by exact fun _ _ _ h => h) (Or.inl ⟨by rfl, ?_⟩) (by assumption) ?_; rotate_left 1; · (intro w hSw; (try dsimp only at hSw); go_simp; (try with_reducible rfl))) | (refine wpAnyH_take (i := 0) (v := undef) (by simp only [List.getElem?_toArray, List.getElem?_cons_zero]; rfl) (by kernel_rfl) (by kernel_rfl) (by kernel_rfl) (by exact fun _ _ _ h => h) (Or.inr ⟨by rfl, rfl⟩) (by assumption) ?_)); (try simp only [Act.put, List.setIfInBounds_toArray, List.set_cons_zero, List.set_cons_succ]))
  ((first | (refine wpAnyH_take (i := 1) (v := ?_) (by simp only [List.getElem?_toArray, List.getElem?_cons_succ, List.getElem?_cons_zero]; rfl) (by kernel_rfl) (by kernel_rfl) (by kernel_rfl) (by exact fun _ _ _ h => h) (Or.inl ⟨by rfl, ?_⟩) (by assumption) ?_; rotate_left 1; · (intro w hSw; (try dsimp only at hSw); go_simp; (try with_reducible rfl))) | (refine wpAnyH_take (i := 1) (v := undef) (by simp only [List.getElem?_toArray, List.getElem?_cons_succ, List.getElem?_cons_zero]; rfl) (by kernel_rfl) (by kernel_rfl) (by kernel_rfl) (by exact fun _ _ _ h => h) (Or.inr ⟨by rfl, rfl⟩) (by assumption) ?_)); (try simp only [Act.put, List.setIfInBounds_toArray, List.set_cons_zero, List.set_cons_succ]))
  ((first | (refine wpAnyH_take (i := 4) (v := ?_) (by simp only [List.getElem?_toArray, List.getElem?_cons_succ, List.getElem?_cons_zero]; rfl) (by kernel_rfl) (by kernel_rfl) (by kernel_rfl) (by exact fun _ _ _ h => h) (Or.inl ⟨by rfl, ?_⟩) (by assumption) ?_; rotate_left 1; · (intro w hSw; (try dsimp only at hSw); go_simp; (try with_reducible rfl))) | (refine wpAnyH_take (i := 4) (v := undef) (by simp only [List.getElem?_toArray, List.getElem?_cons_succ, List.getElem?_cons_zero]; rfl) (by kernel_rfl) (by kernel_rfl) (by kernel_rfl) (by exact fun _ _ _ h => h) (Or.inr ⟨by rfl, rfl⟩) (by assumption) ?_)); (try simp only [Act.put, List.setIfInBounds_toArray, List.set_cons_zero, List.set_cons_succ]))
  ((first | (refine wpAnyH_take (i := 5) (v := ?_) (by simp only [List.getElem?_toArray, List.getElem?_cons_succ, List.getElem?_cons_zero]; rfl) (by kernel_rfl) (by kernel_rfl) (by kernel_rfl) (by exact fun _ _ _ h => h) (Or.inl ⟨by rfl, ?_⟩) (by assumption) ?_; rotate_left 1; · (intro w hSw; (try dsimp only at hSw); go_simp; (try with_reducible rfl))) | (refine wpAnyH_take (i := 5) (v := undef) (by simp only [List.getElem?_toArray, List.getElem?_cons_succ, List.getElem?_cons_zero]; rfl) (by kernel_rfl) (by kernel_rfl) (by kernel_rfl) (by exact fun _ _ _ h => h) (Or.inr ⟨by rfl, rfl⟩) (by assumption) ?_)); (try simp only [Act.put, List.setIfInBounds_toArray, List.set_cons_zero, List.set_cons_succ]))
  ((first | (refine wpAnyH_take (i := 8) (v := ?_) (by simp only [List.getElem?_toArray, List.getElem?_cons_succ, List.getElem?_cons_zero]; rfl) (by kernel_rfl) (by kernel_rfl) (by kernel_rfl) (by exact fun _ _ _ h => h) (Or.inl ⟨by rfl, ?_⟩) (by assumption) ?_; rotate_left 1; · (intro w hSw; (try dsimp only at hSw); go_simp; (try with_reducible rfl))) | (refine wpAnyH_take (i := 8) (v := undef) (by simp only [List.getElem?_toArray, List.getElem?_cons_succ, List.getElem?_cons_zero]; rfl) (by kernel_rfl) (by kernel_rfl) (by kernel_rfl) (by exact fun _ _ _ h => h) (Or.inr ⟨by rfl, rfl⟩) (by assumption) ?_)); (try simp only [Act.put, List.setIfInBounds_toArray, List.set_cons_zero, List.set_cons_succ]))
  ((first | (refine wpAnyH_take (i := 9) (v := ?_) (by simp only [List.getElem?_toArray, List.getElem?_cons_succ, List.getElem?_cons_zero]; rfl) (by kernel_rfl) (by kernel_rfl) (by kernel_rfl) (by exact fun _ _ _ h => h) (Or.inl ⟨by rfl, ?_⟩) (by assumption) ?_; rotate_left 1; · (intro w hSw; (try dsimp only at hSw); go_simp; (try with_reducible rfl))) | (refine wpAnyH_take (i := 9) (v := undef) (by simp only [List.getElem?_toArray, List.getElem?_cons_succ, List.getElem?_cons_zero]; rfl) (by kernel_rfl) (by kernel_rfl) (by kernel_rfl) (by exact fun _ _ _ h => h) (Or.inr ⟨by rfl, rfl⟩) (by assumption) ?_)); (try simp only [Act.put, List.setIfInBounds_toArray, List.set_cons_zero, List.set_cons_succ]))
  (refine wpAnyH_ready (rs := [2]) (by kernel_rfl) (by simp) ?_; refine AllReadyH.cons (by simp only [List.getElem?_toArray, List.getElem?_cons_succ, List.getElem?_cons_zero]; rfl) (fun K hK => ?_) AllReadyH.nil; go_simp; go_at_call 51; refine (HKW.out _).mono ?_; rintro e w5 ⟨rfl, hb4⟩; (first | have HBN := Lib.hid (HBL.out.trans ((below_undrew2 hb4).mono HBL.out.size)) | have HBN := Lib.hid (HBL.out.trans (hb4.mono HBL.out.size))); replace HBL := HBN; clear HBN; refine hK.out _ _ (⟨cell_later hb4 hHeld.1, cell_later hb4 hHeld.2.1, cell_later hb4 hHeld.2.2.1, cell_later hb4 hHeld.2.2.2.1, cell_later hb4 hHeld.2.2.2.2.1, cell_later hb4 hHeld.2.2.2.2.2.1, cell_later hb4 hHeld.2.2.2.2.2.2.1, cell_later hb4 hHeld.2.2.2.2.2.2.2.1, cell_later hb4 hHeld.2.2.2.2.2.2.2.2.1, cell_later hb4 hHeld.2.2.2.2.2.2.2.2.2.1, cell_later hb4 hHeld.2.2.2.2.2.2.2.2.2.2.1, cell_later hb4 hHeld.2.2.2.2.2.2.2.2.2.2.2⟩) (fun hHeld => ?_); clear hK K; (try simp only [Act.put, List.setIfInBounds_toArray, List.set_cons_zero, List.set_cons_succ]))
  (refine wpAnyH_ready (rs := [3]) (by kernel_rfl) (by simp) ?_; refine AllReadyH.cons (by simp only [List.getElem?_toArray, List.getElem?_cons_succ, List.getElem?_cons_zero]; rfl) (fun K hK => ?_) AllReadyH.nil; go_simp; go_at_call 53; refine (HCN.out _).mono ?_; rintro e w5 ⟨rfl, hb4⟩; (first | have HBN := Lib.hid (HBL.out.trans ((below_undrew2 hb4).mono HBL.out.size)) | have HBN := Lib.hid (HBL.out.trans (hb4.mono HBL.out.size))); replace HBL := HBN; clear HBN; refine hK.out _ _ (⟨cell_later hb4 hHeld.1, cell_later hb4 hHeld.2.1, cell_later hb4 hHeld.2.2.1, cell_later hb4 hHeld.2.2.2.1, cell_later hb4 hHeld.2.2.2.2.1, cell_later hb4 hHeld.2.2.2.2.2.1, cell_later hb4 hHeld.2.2.2.2.2.2.1, cell_later hb4 hHeld.2.2.2.2.2.2.2.1, cell_later hb4 hHeld.2.2.2.2.2.2.2.2.1, cell_later hb4 hHeld.2.2.2.2.2.2.2.2.2.1, cell_later hb4 hHeld.2.2.2.2.2.2.2.2.2.2.1, cell_later hb4 hHeld.2.2.2.2.2.2.2.2.2.2.2⟩) (fun hHeld => ?_); clear hK K; (try simp only [Act.put, List.setIfInBounds_toArray, List.set_cons_zero, List.set_cons_succ]))
  (refine wpAnyH_ready (rs := [6]) (by kernel_rfl) (by simp) ?_; refine AllReadyH.cons (by simp only [List.getElem?_toArray, List.getElem?_cons_succ, List.getElem?_cons_zero]; rfl) (fun K hK => ?_) AllReadyH.nil; go_simp; go_at_call 53; refine (HCB.out _).mono ?_; rintro e w5 ⟨rfl, hb4⟩; (first | have HBN := Lib.hid (HBL.out.trans ((below_undrew2 hb4).mono HBL.out.size)) | have HBN := Lib.hid (HBL.out.trans (hb4.mono HBL.out.size))); replace HBL := HBN; clear HBN; refine hK.out _ _ (⟨cell_later hb4 hHeld.1, cell_later hb4 hHeld.2.1, cell_later hb4 hHeld.2.2.1, cell_later hb4 hHeld.2.2.2.1, cell_later hb4 hHeld.2.2.2.2.1, cell_later hb4 hHeld.2.2.2.2.2.1, cell_later hb4 hHeld.2.2.2.2.2.2.1, cell_later hb4 hHeld.2.2.2.2.2.2.2.1, cell_later hb4 hHeld.2.2.2.2.2.2.2.2.1, cell_later hb4 hHeld.2.2.2.2.2.2.2.2.2.1, cell_later hb4 hHeld.2.2.2.2.2.2.2.2.2.2.1, cell_later hb4 hHeld.2.2.2.2.2.2.2.2.2.2.2⟩) (fun hHeld => ?_); clear hK K; (try simp only [Act.put, List.setIfInBounds_toArray, List.set_cons_zero, List.set_cons_succ]))
  ((first | (refine wpAnyH_take (i := 7) (v := ?_) (by simp only [List.getElem?_toArray, List.getElem?_cons_succ, List.getElem?_cons_zero]; rfl) (by kernel_rfl) (by kernel_rfl) (by kernel_rfl) (by exact fun _ _ _ h => h) (Or.inl ⟨by rfl, ?_⟩) (by assumption) ?_; rotate_left 1; · (intro w hSw; (try dsimp only at hSw); go_simp; (try with_reducible rfl))) | (refine wpAnyH_take (i := 7) (v := undef) (by simp only [List.getElem?_toArray, List.getElem?_cons_succ, List.getElem?_cons_zero]; rfl) (by kernel_rfl) (by kernel_rfl) (by kernel_rfl) (by exact fun _ _ _ h => h) (Or.inr ⟨by rfl, rfl⟩) (by assumption) ?_)); (try simp only [Act.put, List.setIfInBounds_toArray, List.set_cons_zero, List.set_cons_succ]))
  (refine wpAnyH_ready (rs := [10]) (by kernel_rfl) (by simp) ?_; refine AllReadyH.cons (by simp only [List.getElem?_toArray, List.getElem?_cons_succ, List.getElem?_cons_zero]; rfl) (fun K hK => ?_) AllReadyH.nil; go_simp; go_at_call 53; refine (HCE.out _).mono ?_; rintro e w5 ⟨rfl, hb4⟩; (first | have HBN := Lib.hid (HBL.out.trans ((below_undrew2 hb4).mono HBL.out.size)) | have HBN := Lib.hid (HBL.out.trans (hb4.mono HBL.out.size))); replace HBL := HBN; clear HBN; refine hK.out _ _ (⟨cell_later hb4 hHeld.1, cell_later hb4 hHeld.2.1, cell_later hb4 hHeld.2.2.1, cell_later hb4 hHeld.2.2.2.1, cell_later hb4 hHeld.2.2.2.2.1, cell_later hb4 hHeld.2.2.2.2.2.1, cell_later hb4 hHeld.2.2.2.2.2.2.1, cell_later hb4 hHeld.2.2.2.2.2.2.2.1, cell_later hb4 hHeld.2.2.2.2.2.2.2.2.1, cell_later hb4 hHeld.2.2.2.2.2.2.2.2.2.1, cell_later hb4 hHeld.2.2.2.2.2.2.2.2.2.2.1, cell_later hb4 hHeld.2.2.2.2.2.2.2.2.2.2.2⟩) (fun hHeld => ?_); clear hK K; (try simp only [Act.put, List.setIfInBounds_toArray, List.set_cons_zero, List.set_cons_succ]))
  ((first | (refine wpAnyH_take (i := 11) (v := ?_) (by simp only [List.getElem?_toArray, List.getElem?_cons_succ, List.getElem?_cons_zero]; rfl) (by kernel_rfl) (by kernel_rfl) (by kernel_rfl) (by exact fun _ _ _ h => h) (Or.inl ⟨by rfl, ?_⟩) (by assumption) ?_; rotate_left 1; · (intro w hSw; (try dsimp only at hSw); go_simp; (try with_reducible rfl))) | (refine wpAnyH_take (i := 11) (v := undef) (by simp only [List.getElem?_toArray, List.getElem?_cons_succ, List.getElem?_cons_zero]; rfl) (by kernel_rfl) (by kernel_rfl) (by kernel_rfl) (by exact fun _ _ _ h => h) (Or.inr ⟨by rfl, rfl⟩) (by assumption) ?_)); (try simp only [Act.put, List.setIfInBounds_toArray, List.set_cons_zero, List.set_cons_succ]))
  ((first | (refine wpAnyH_take (i := 12) (v := ?_) (by simp only [List.getElem?_toArray, List.getElem?_cons_succ, List.getElem?_cons_zero]; rfl) (by kernel_rfl) (by kernel_rfl) (by kernel_rfl) (by exact fun _ _ _ h => h) (Or.inl ⟨by rfl, ?_⟩) (by assumption) ?_; rotate_left 1; · (intro w hSw; (try dsimp only at hSw); go_simp; (try with_reducible rfl))) | (refine wpAnyH_take (i := 12) (v := undef) (by simp only [List.getElem?_toArray, List.getElem?_cons_succ, List.getElem?_cons_zero]; rfl) (by kernel_rfl) (by kernel_rfl) (by kernel_rfl) (by exact fun _ _ _ h => h) (Or.inr ⟨by rfl, rfl⟩) (by assumption) ?_)); (try simp only [Act.put, List.setIfInBounds_toArray, List.set_cons_zero, List.set_cons_succ]))
  ((first | (refine wpAnyH_take (i := 13) (v := ?_) (by simp only [List.getElem?_toArray, List.getElem?_cons_succ, List.getElem?_cons_zero]; rfl) (by kernel_rfl) (by kernel_rfl) (by kernel_rfl) (by exact fun _ _ _ h => h) (Or.inl ⟨by rfl, ?_⟩) (by assumption) ?_; rotate_left 1; · (intro w hSw; (try dsimp only at hSw); go_simp; (try with_reducible rfl))) | (refine wpAnyH_take (i := 13) (v := undef) (by simp only [List.getElem?_toArray, List.getElem?_cons_succ, List.getElem?_cons_zero]; rfl) (by kernel_rfl) (by kernel_rfl) (by kernel_rfl) (by exact fun _ _ _ h => h) (Or.inr ⟨by rfl, rfl⟩) (by assumption) ?_)); (try simp only [Act.put, List.setIfInBounds_toArray, List.set_cons_zero, List.set_cons_succ]))
  (refine wpAnyH_done (by kernel_rfl) ?_ _)
  go_wp2_with fail
  go_ret2
  exact KeyPost.yes HVE.out (by rw [← E_CN.out, ← E_CB.out, ← E_CE.out, ← E_KW.out]) HBL.out
set_option maxRecDepth 100000 in
set_option maxHeartbeats 4000000 in
theorem zkey (z : Zn.Z) (w : World) (hz : z.fits 140737488355328) (hd : Dat.At w) :
    Calls Tryz.prog 21 #[z.val] w (KeyPost z w) := by
  have HVV := Lib.hid (show ∀ W, Dat.At W → Calls Tryz.prog 23 #[.agg #[.int .i64 z.fmt, .string z.kind, .string z.state, .string z.sur, .string z.giv, .string z.num, .string z.nat, .string z.birth, .string z.sex, .string z.exp, .string z.opt, .string z.sec]] W fun e w' => e = .returned (.int .i64 (Zn.vldE z)) ∧ Below W.heap.size W w' from fun W hW => zvalidZ z W hz hW)
  obtain ⟨vE, hvE⟩ : ∃ q, Zn.vldE z = q := ⟨_, rfl⟩
  rw [hvE] at HVV
  have HVE := Lib.hid hvE
  have hb1 := below_alloc1 w (.cells #[.int .i64 z.fmt, .string z.kind, .string z.state, .string z.sur, .string z.giv, .string z.num, .string z.nat, .string z.birth, .string z.sex, .string z.exp, .string z.opt, .string z.sec] 24)
  have hbx := zbox_new_at w z z.fmt rfl
  have HDX := Lib.hid hd
  clear hd
  clear hvE hz
  unfold Zn.Z.val
  go_enter Tryz.func21, Tryz.ntmps21
  go_upto_region 1 with fail
  generalize w.alloc (.cells #[.int .i64 z.fmt, .string z.kind, .string z.state, .string z.sur, .string z.giv, .string z.num, .string z.nat, .string z.birth, .string z.sex, .string z.exp, .string z.opt, .string z.sec] 24) = w1 at hb1 hbx ⊢
  have HB1 := Lib.hid hb1; have HX := Lib.hid hbx
  clear hb1 hbx
  obtain ⟨g1, hg1⟩ : ∃ q, w.heap.size = q := ⟨_, rfl⟩
  rw [hg1] at HX ⊢
  have HG1 := Lib.hid hg1
  clear hg1
  obtain ⟨x0, x1, x2, x3, x4, x5, x6, x7, x8, x9, x10, x11⟩ := HX.out
  go_wp2_with fail
  refine (HVV.out _ (HDX.out.below HB1.out)).mono ?_; rintro e w2 ⟨rfl, hb2⟩
  have HBL := Lib.hid (HB1.out.trans (hb2.mono HB1.out.size))
  have hHeld := zcells_later hb2 HX.out
  clear hb2 HB1 HX x0 x1 x2 x3 x4 x5 x6 x7 x8 x9 x10 x11
  by_cases hE : vE ≠ 0
  · have e1 : (vE != 0) = true := by rw [bne_iff_ne]; exact hE
    have HE' := Lib.hid hE
    clear hE
    go_wp2_with fail
    go_ret2
    exact KeyPost.no HE'.out HVE.out HBL.out
  obtain rfl : vE = 0 := by omega
  have HGD := Lib.hid (Zn.good_of HVE.out)
  clear hE
  have hn20 := HGD.out.numLe20
  obtain ⟨mx, hmx⟩ : ∃ q : Int, max (0 : Int) (9 - (z.num.size : Int)) = q := ⟨_, rfl⟩
  have hmx0 : 0 ≤ mx ∧ mx ≤ 9 := by rw [← hmx]; omega
  have e16 : IntKind.i64.wrap (9 - (z.num.size : Int)) = 9 - (z.num.size : Int) := IntWalk.i64_in _ (by omega)
  have HRP := Lib.hid (fun W => orepeat mx W hmx0.1 (by omega))
  obtain ⟨RP, hRP⟩ : ∃ q : ByteArray, (⟨(List.replicate mx.toNat (60 : UInt8)).toArray⟩ : ByteArray) = q := ⟨_, rfl⟩
  rw [hRP] at HRP
  have E_RP := Lib.hid hRP
  have zRP : RP.size ≤ 9 := by rw [← hRP, arr_size, List.length_replicate]; omega
  clear hRP
  have HMX := Lib.hid hmx
  obtain ⟨NN, hNN⟩ : ∃ q : ByteArray, z.num ++ RP = q := ⟨_, rfl⟩
  have zNN : NN.size ≤ 29 := by rw [← hNN, ByteArray.size_append]; omega
  have E_NN := Lib.hid hNN
  have HDN := Lib.hid (fun W => zdigit NN W (by omega))
  obtain ⟨DN, hDN⟩ : ∃ q : ByteArray, Opt.digS NN = q := ⟨_, rfl⟩
  rw [hDN] at HDN
  have E_DN := Lib.hid hDN
  have zDN : DN.size ≤ 1 := by rw [← hDN]; exact digS_one _
  clear hDN
  have HDB := Lib.hid (fun W => zdigit z.birth W (by have := Zn.birth_size HGD.out.birth; omega))
  obtain ⟨DB, hDB⟩ : ∃ q : ByteArray, Opt.digS z.birth = q := ⟨_, rfl⟩
  rw [hDB] at HDB
  have E_DB := Lib.hid hDB
  have zDB : DB.size ≤ 1 := by rw [← hDB]; exact digS_one _
  clear hDB
  have HDX := Lib.hid (fun W => zdigit z.exp W (by have := Zn.prE_size HGD.out.exp; omega))
  obtain ⟨DX, hDX⟩ : ∃ q : ByteArray, Opt.digS z.exp = q := ⟨_, rfl⟩
  rw [hDX] at HDX
  have E_DX := Lib.hid hDX
  have zDX : DX.size ≤ 1 := by rw [← hDX]; exact digS_one _
  clear hDX
  have zB : z.birth.size ≤ 6 := by have := Zn.birth_size HGD.out.birth; omega
  have zX : z.exp.size ≤ 6 := by have := Zn.prE_size HGD.out.exp; omega
  have s0 : ¬ (9223372036854775807 < z.num.size + RP.size) := by omega
  have s2 : ¬ (9223372036854775807 < NN.size + DN.size) := by omega
  have s3 : ¬ (9223372036854775807 < NN.size + DN.size + z.birth.size) := by omega
  have s4 : ¬ (9223372036854775807 < NN.size + DN.size + z.birth.size + DB.size) := by omega
  have s5 : ¬ (9223372036854775807 < NN.size + DN.size + z.birth.size + DB.size + z.exp.size) := by omega
  have s6 : ¬ (9223372036854775807 < NN.size + DN.size + z.birth.size + DB.size + z.exp.size + DX.size) := by omega
  go_wp2_with fail
  (refine wp_region_held_drew (S := (fun W => W.cell? ⟨g1, 0, none⟩ = some (.int .i64 z.fmt) ∧ W.cell? ⟨g1, 1, none⟩ = some (.string z.kind) ∧ W.cell? ⟨g1, 2, none⟩ = some (.string z.state) ∧ W.cell? ⟨g1, 3, none⟩ = some (.string z.sur) ∧ W.cell? ⟨g1, 4, none⟩ = some (.string z.giv) ∧ W.cell? ⟨g1, 5, none⟩ = some (.string z.num) ∧ W.cell? ⟨g1, 6, none⟩ = some (.string z.nat) ∧ W.cell? ⟨g1, 7, none⟩ = some (.string z.birth) ∧ W.cell? ⟨g1, 8, none⟩ = some (.string z.sex) ∧ W.cell? ⟨g1, 9, none⟩ = some (.string z.exp) ∧ W.cell? ⟨g1, 10, none⟩ = some (.string z.opt) ∧ W.cell? ⟨g1, 11, none⟩ = some (.string z.sec))) (by kernel_rfl) (hHeld) (fun hHeld => ?_))
  ((first | (refine wpAnyH_take (i := 0) (v := ?_) (by simp only [List.getElem?_toArray, List.getElem?_cons_zero]; rfl) (by kernel_rfl) (by kernel_rfl) (by kernel_rfl) (by exact fun _ _ _ h => h) (Or.inl ⟨by rfl, ?_⟩) (by assumption) ?_; rotate_left 1; · (intro w hSw; (try dsimp only at hSw); go_simp; (try with_reducible rfl))) | (refine wpAnyH_take (i := 0) (v := undef) (by simp only [List.getElem?_toArray, List.getElem?_cons_zero]; rfl) (by kernel_rfl) (by kernel_rfl) (by kernel_rfl) (by exact fun _ _ _ h => h) (Or.inr ⟨by rfl, rfl⟩) (by assumption) ?_)); (try simp only [Act.put, List.setIfInBounds_toArray, List.set_cons_zero, List.set_cons_succ]))
  ((first | (refine wpAnyH_take (i := 1) (v := ?_) (by simp only [List.getElem?_toArray, List.getElem?_cons_succ, List.getElem?_cons_zero]; rfl) (by kernel_rfl) (by kernel_rfl) (by kernel_rfl) (by exact fun _ _ _ h => h) (Or.inl ⟨by rfl, ?_⟩) (by assumption) ?_; rotate_left 1; · (intro w hSw; (try dsimp only at hSw); go_simp; (try with_reducible rfl))) | (refine wpAnyH_take (i := 1) (v := undef) (by simp only [List.getElem?_toArray, List.getElem?_cons_succ, List.getElem?_cons_zero]; rfl) (by kernel_rfl) (by kernel_rfl) (by kernel_rfl) (by exact fun _ _ _ h => h) (Or.inr ⟨by rfl, rfl⟩) (by assumption) ?_)); (try simp only [Act.put, List.setIfInBounds_toArray, List.set_cons_zero, List.set_cons_succ]))
  ((first | (refine wpAnyH_take (i := 2) (v := ?_) (by simp only [List.getElem?_toArray, List.getElem?_cons_succ, List.getElem?_cons_zero]; rfl) (by kernel_rfl) (by kernel_rfl) (by kernel_rfl) (by exact fun _ _ _ h => h) (Or.inl ⟨by rfl, ?_⟩) (by assumption) ?_; rotate_left 1; · (intro w hSw; (try dsimp only at hSw); go_simp; (try with_reducible rfl))) | (refine wpAnyH_take (i := 2) (v := undef) (by simp only [List.getElem?_toArray, List.getElem?_cons_succ, List.getElem?_cons_zero]; rfl) (by kernel_rfl) (by kernel_rfl) (by kernel_rfl) (by exact fun _ _ _ h => h) (Or.inr ⟨by rfl, rfl⟩) (by assumption) ?_)); (try simp only [Act.put, List.setIfInBounds_toArray, List.set_cons_zero, List.set_cons_succ]))
  ((first | (refine wpAnyH_take (i := 3) (v := ?_) (by simp only [List.getElem?_toArray, List.getElem?_cons_succ, List.getElem?_cons_zero]; rfl) (by kernel_rfl) (by kernel_rfl) (by kernel_rfl) (by exact fun _ _ _ h => h) (Or.inl ⟨by rfl, ?_⟩) (by assumption) ?_; rotate_left 1; · (intro w hSw; (try dsimp only at hSw); go_simp; (try with_reducible rfl))) | (refine wpAnyH_take (i := 3) (v := undef) (by simp only [List.getElem?_toArray, List.getElem?_cons_succ, List.getElem?_cons_zero]; rfl) (by kernel_rfl) (by kernel_rfl) (by kernel_rfl) (by exact fun _ _ _ h => h) (Or.inr ⟨by rfl, rfl⟩) (by assumption) ?_)); (try simp only [Act.put, List.setIfInBounds_toArray, List.set_cons_zero, List.set_cons_succ]))
  ((first | (refine wpAnyH_take (i := 4) (v := ?_) (by simp only [List.getElem?_toArray, List.getElem?_cons_succ, List.getElem?_cons_zero]; rfl) (by kernel_rfl) (by kernel_rfl) (by kernel_rfl) (by exact fun _ _ _ h => h) (Or.inl ⟨by rfl, ?_⟩) (by assumption) ?_; rotate_left 1; · (intro w hSw; (try dsimp only at hSw); go_simp; (try with_reducible rfl))) | (refine wpAnyH_take (i := 4) (v := undef) (by simp only [List.getElem?_toArray, List.getElem?_cons_succ, List.getElem?_cons_zero]; rfl) (by kernel_rfl) (by kernel_rfl) (by kernel_rfl) (by exact fun _ _ _ h => h) (Or.inr ⟨by rfl, rfl⟩) (by assumption) ?_)); (try simp only [Act.put, List.setIfInBounds_toArray, List.set_cons_zero, List.set_cons_succ]))
  ((first | (refine wpAnyH_take (i := 5) (v := ?_) (by simp only [List.getElem?_toArray, List.getElem?_cons_succ, List.getElem?_cons_zero]; rfl) (by kernel_rfl) (by kernel_rfl) (by kernel_rfl) (by exact fun _ _ _ h => h) (Or.inl ⟨by rfl, ?_⟩) (by assumption) ?_; rotate_left 1; · (intro w hSw; (try dsimp only at hSw); go_simp; (try with_reducible rfl))) | (refine wpAnyH_take (i := 5) (v := undef) (by simp only [List.getElem?_toArray, List.getElem?_cons_succ, List.getElem?_cons_zero]; rfl) (by kernel_rfl) (by kernel_rfl) (by kernel_rfl) (by exact fun _ _ _ h => h) (Or.inr ⟨by rfl, rfl⟩) (by assumption) ?_)); (try simp only [Act.put, List.setIfInBounds_toArray, List.set_cons_zero, List.set_cons_succ]))
  ((first | (refine wpAnyH_take (i := 6) (v := ?_) (by simp only [List.getElem?_toArray, List.getElem?_cons_succ, List.getElem?_cons_zero]; rfl) (by kernel_rfl) (by kernel_rfl) (by kernel_rfl) (by exact fun _ _ _ h => h) (Or.inl ⟨by rfl, ?_⟩) (by assumption) ?_; rotate_left 1; · (intro w hSw; (try dsimp only at hSw); go_simp; (try with_reducible rfl))) | (refine wpAnyH_take (i := 6) (v := undef) (by simp only [List.getElem?_toArray, List.getElem?_cons_succ, List.getElem?_cons_zero]; rfl) (by kernel_rfl) (by kernel_rfl) (by kernel_rfl) (by exact fun _ _ _ h => h) (Or.inr ⟨by rfl, rfl⟩) (by assumption) ?_)); (try simp only [Act.put, List.setIfInBounds_toArray, List.set_cons_zero, List.set_cons_succ]))
  (refine wpAnyH_ready (rs := [7]) (by kernel_rfl) (by simp) ?_; refine AllReadyH.cons (by simp only [List.getElem?_toArray, List.getElem?_cons_succ, List.getElem?_cons_zero]; rfl) (fun K hK => ?_) AllReadyH.nil; go_simp; go_at_call 46; refine (HRP.out _).mono ?_; rintro e w5 ⟨rfl, hb4⟩; (first | have HBN := Lib.hid (HBL.out.trans ((below_undrew2 hb4).mono HBL.out.size)) | have HBN := Lib.hid (HBL.out.trans (hb4.mono HBL.out.size))); replace HBL := HBN; clear HBN; refine hK.out _ _ (⟨cell_later hb4 hHeld.1, cell_later hb4 hHeld.2.1, cell_later hb4 hHeld.2.2.1, cell_later hb4 hHeld.2.2.2.1, cell_later hb4 hHeld.2.2.2.2.1, cell_later hb4 hHeld.2.2.2.2.2.1, cell_later hb4 hHeld.2.2.2.2.2.2.1, cell_later hb4 hHeld.2.2.2.2.2.2.2.1, cell_later hb4 hHeld.2.2.2.2.2.2.2.2.1, cell_later hb4 hHeld.2.2.2.2.2.2.2.2.2.1, cell_later hb4 hHeld.2.2.2.2.2.2.2.2.2.2.1, cell_later hb4 hHeld.2.2.2.2.2.2.2.2.2.2.2⟩) (fun hHeld => ?_); clear hK K; (try simp only [Act.put, List.setIfInBounds_toArray, List.set_cons_zero, List.set_cons_succ]))
  ((first | (refine wpAnyH_take (i := 8) (v := ?_) (by simp only [List.getElem?_toArray, List.getElem?_cons_succ, List.getElem?_cons_zero]; rfl) (by kernel_rfl) (by kernel_rfl) (by kernel_rfl) (by exact fun _ _ _ h => h) (Or.inl ⟨by rfl, ?_⟩) (by assumption) ?_; rotate_left 1; · (intro w hSw; (try dsimp only at hSw); go_simp; (try with_reducible rfl))) | (refine wpAnyH_take (i := 8) (v := undef) (by simp only [List.getElem?_toArray, List.getElem?_cons_succ, List.getElem?_cons_zero]; rfl) (by kernel_rfl) (by kernel_rfl) (by kernel_rfl) (by exact fun _ _ _ h => h) (Or.inr ⟨by rfl, rfl⟩) (by assumption) ?_)); (try simp only [Act.put, List.setIfInBounds_toArray, List.set_cons_zero, List.set_cons_succ]))
  ((first | (refine wpAnyH_take (i := 9) (v := ?_) (by simp only [List.getElem?_toArray, List.getElem?_cons_succ, List.getElem?_cons_zero]; rfl) (by kernel_rfl) (by kernel_rfl) (by kernel_rfl) (by exact fun _ _ _ h => h) (Or.inl ⟨by rfl, ?_⟩) (by assumption) ?_; rotate_left 1; · (intro w hSw; (try dsimp only at hSw); go_simp; (try with_reducible rfl))) | (refine wpAnyH_take (i := 9) (v := undef) (by simp only [List.getElem?_toArray, List.getElem?_cons_succ, List.getElem?_cons_zero]; rfl) (by kernel_rfl) (by kernel_rfl) (by kernel_rfl) (by exact fun _ _ _ h => h) (Or.inr ⟨by rfl, rfl⟩) (by assumption) ?_)); (try simp only [Act.put, List.setIfInBounds_toArray, List.set_cons_zero, List.set_cons_succ]))
  (refine wpAnyH_done (by kernel_rfl) ?_ _)
  go_upto_region 5 with fail
  clear s0 hmx hNN e16
  (refine wp_region_held_drew (S := (fun W => W.cell? ⟨g1, 0, none⟩ = some (.int .i64 z.fmt) ∧ W.cell? ⟨g1, 1, none⟩ = some (.string z.kind) ∧ W.cell? ⟨g1, 2, none⟩ = some (.string z.state) ∧ W.cell? ⟨g1, 3, none⟩ = some (.string z.sur) ∧ W.cell? ⟨g1, 4, none⟩ = some (.string z.giv) ∧ W.cell? ⟨g1, 5, none⟩ = some (.string z.num) ∧ W.cell? ⟨g1, 6, none⟩ = some (.string z.nat) ∧ W.cell? ⟨g1, 7, none⟩ = some (.string z.birth) ∧ W.cell? ⟨g1, 8, none⟩ = some (.string z.sex) ∧ W.cell? ⟨g1, 9, none⟩ = some (.string z.exp) ∧ W.cell? ⟨g1, 10, none⟩ = some (.string z.opt) ∧ W.cell? ⟨g1, 11, none⟩ = some (.string z.sec))) (by kernel_rfl) (hHeld) (fun hHeld => ?_))
  ((first | (refine wpAnyH_take (i := 0) (v := ?_) (by simp only [List.getElem?_toArray, List.getElem?_cons_zero]; rfl) (by kernel_rfl) (by kernel_rfl) (by kernel_rfl) (by exact fun _ _ _ h => h) (Or.inl ⟨by rfl, ?_⟩) (by assumption) ?_; rotate_left 1; · (intro w hSw; (try dsimp only at hSw); go_simp; (try with_reducible rfl))) | (refine wpAnyH_take (i := 0) (v := undef) (by simp only [List.getElem?_toArray, List.getElem?_cons_zero]; rfl) (by kernel_rfl) (by kernel_rfl) (by kernel_rfl) (by exact fun _ _ _ h => h) (Or.inr ⟨by rfl, rfl⟩) (by assumption) ?_)); (try simp only [Act.put, List.setIfInBounds_toArray, List.set_cons_zero, List.set_cons_succ]))
  ((first | (refine wpAnyH_take (i := 1) (v := ?_) (by simp only [List.getElem?_toArray, List.getElem?_cons_succ, List.getElem?_cons_zero]; rfl) (by kernel_rfl) (by kernel_rfl) (by kernel_rfl) (by exact fun _ _ _ h => h) (Or.inl ⟨by rfl, ?_⟩) (by assumption) ?_; rotate_left 1; · (intro w hSw; (try dsimp only at hSw); go_simp; (try with_reducible rfl))) | (refine wpAnyH_take (i := 1) (v := undef) (by simp only [List.getElem?_toArray, List.getElem?_cons_succ, List.getElem?_cons_zero]; rfl) (by kernel_rfl) (by kernel_rfl) (by kernel_rfl) (by exact fun _ _ _ h => h) (Or.inr ⟨by rfl, rfl⟩) (by assumption) ?_)); (try simp only [Act.put, List.setIfInBounds_toArray, List.set_cons_zero, List.set_cons_succ]))
  ((first | (refine wpAnyH_take (i := 4) (v := ?_) (by simp only [List.getElem?_toArray, List.getElem?_cons_succ, List.getElem?_cons_zero]; rfl) (by kernel_rfl) (by kernel_rfl) (by kernel_rfl) (by exact fun _ _ _ h => h) (Or.inl ⟨by rfl, ?_⟩) (by assumption) ?_; rotate_left 1; · (intro w hSw; (try dsimp only at hSw); go_simp; (try with_reducible rfl))) | (refine wpAnyH_take (i := 4) (v := undef) (by simp only [List.getElem?_toArray, List.getElem?_cons_succ, List.getElem?_cons_zero]; rfl) (by kernel_rfl) (by kernel_rfl) (by kernel_rfl) (by exact fun _ _ _ h => h) (Or.inr ⟨by rfl, rfl⟩) (by assumption) ?_)); (try simp only [Act.put, List.setIfInBounds_toArray, List.set_cons_zero, List.set_cons_succ]))
  ((first | (refine wpAnyH_take (i := 5) (v := ?_) (by simp only [List.getElem?_toArray, List.getElem?_cons_succ, List.getElem?_cons_zero]; rfl) (by kernel_rfl) (by kernel_rfl) (by kernel_rfl) (by exact fun _ _ _ h => h) (Or.inl ⟨by rfl, ?_⟩) (by assumption) ?_; rotate_left 1; · (intro w hSw; (try dsimp only at hSw); go_simp; (try with_reducible rfl))) | (refine wpAnyH_take (i := 5) (v := undef) (by simp only [List.getElem?_toArray, List.getElem?_cons_succ, List.getElem?_cons_zero]; rfl) (by kernel_rfl) (by kernel_rfl) (by kernel_rfl) (by exact fun _ _ _ h => h) (Or.inr ⟨by rfl, rfl⟩) (by assumption) ?_)); (try simp only [Act.put, List.setIfInBounds_toArray, List.set_cons_zero, List.set_cons_succ]))
  ((first | (refine wpAnyH_take (i := 7) (v := ?_) (by simp only [List.getElem?_toArray, List.getElem?_cons_succ, List.getElem?_cons_zero]; rfl) (by kernel_rfl) (by kernel_rfl) (by kernel_rfl) (by exact fun _ _ _ h => h) (Or.inl ⟨by rfl, ?_⟩) (by assumption) ?_; rotate_left 1; · (intro w hSw; (try dsimp only at hSw); go_simp; (try with_reducible rfl))) | (refine wpAnyH_take (i := 7) (v := undef) (by simp only [List.getElem?_toArray, List.getElem?_cons_succ, List.getElem?_cons_zero]; rfl) (by kernel_rfl) (by kernel_rfl) (by kernel_rfl) (by exact fun _ _ _ h => h) (Or.inr ⟨by rfl, rfl⟩) (by assumption) ?_)); (try simp only [Act.put, List.setIfInBounds_toArray, List.set_cons_zero, List.set_cons_succ]))
  ((first | (refine wpAnyH_take (i := 8) (v := ?_) (by simp only [List.getElem?_toArray, List.getElem?_cons_succ, List.getElem?_cons_zero]; rfl) (by kernel_rfl) (by kernel_rfl) (by kernel_rfl) (by exact fun _ _ _ h => h) (Or.inl ⟨by rfl, ?_⟩) (by assumption) ?_; rotate_left 1; · (intro w hSw; (try dsimp only at hSw); go_simp; (try with_reducible rfl))) | (refine wpAnyH_take (i := 8) (v := undef) (by simp only [List.getElem?_toArray, List.getElem?_cons_succ, List.getElem?_cons_zero]; rfl) (by kernel_rfl) (by kernel_rfl) (by kernel_rfl) (by exact fun _ _ _ h => h) (Or.inr ⟨by rfl, rfl⟩) (by assumption) ?_)); (try simp only [Act.put, List.setIfInBounds_toArray, List.set_cons_zero, List.set_cons_succ]))
  ((first | (refine wpAnyH_take (i := 11) (v := ?_) (by simp only [List.getElem?_toArray, List.getElem?_cons_succ, List.getElem?_cons_zero]; rfl) (by kernel_rfl) (by kernel_rfl) (by kernel_rfl) (by exact fun _ _ _ h => h) (Or.inl ⟨by rfl, ?_⟩) (by assumption) ?_; rotate_left 1; · (intro w hSw; (try dsimp only at hSw); go_simp; (try with_reducible rfl))) | (refine wpAnyH_take (i := 11) (v := undef) (by simp only [List.getElem?_toArray, List.getElem?_cons_succ, List.getElem?_cons_zero]; rfl) (by kernel_rfl) (by kernel_rfl) (by kernel_rfl) (by exact fun _ _ _ h => h) (Or.inr ⟨by rfl, rfl⟩) (by assumption) ?_)); (try simp only [Act.put, List.setIfInBounds_toArray, List.set_cons_zero, List.set_cons_succ]))
  ((first | (refine wpAnyH_take (i := 12) (v := ?_) (by simp only [List.getElem?_toArray, List.getElem?_cons_succ, List.getElem?_cons_zero]; rfl) (by kernel_rfl) (by kernel_rfl) (by kernel_rfl) (by exact fun _ _ _ h => h) (Or.inl ⟨by rfl, ?_⟩) (by assumption) ?_; rotate_left 1; · (intro w hSw; (try dsimp only at hSw); go_simp; (try with_reducible rfl))) | (refine wpAnyH_take (i := 12) (v := undef) (by simp only [List.getElem?_toArray, List.getElem?_cons_succ, List.getElem?_cons_zero]; rfl) (by kernel_rfl) (by kernel_rfl) (by kernel_rfl) (by exact fun _ _ _ h => h) (Or.inr ⟨by rfl, rfl⟩) (by assumption) ?_)); (try simp only [Act.put, List.setIfInBounds_toArray, List.set_cons_zero, List.set_cons_succ]))
  ((first | (refine wpAnyH_take (i := 14) (v := ?_) (by simp only [List.getElem?_toArray, List.getElem?_cons_succ, List.getElem?_cons_zero]; rfl) (by kernel_rfl) (by kernel_rfl) (by kernel_rfl) (by exact fun _ _ _ h => h) (Or.inl ⟨by rfl, ?_⟩) (by assumption) ?_; rotate_left 1; · (intro w hSw; (try dsimp only at hSw); go_simp; (try with_reducible rfl))) | (refine wpAnyH_take (i := 14) (v := undef) (by simp only [List.getElem?_toArray, List.getElem?_cons_succ, List.getElem?_cons_zero]; rfl) (by kernel_rfl) (by kernel_rfl) (by kernel_rfl) (by exact fun _ _ _ h => h) (Or.inr ⟨by rfl, rfl⟩) (by assumption) ?_)); (try simp only [Act.put, List.setIfInBounds_toArray, List.set_cons_zero, List.set_cons_succ]))
  ((first | (refine wpAnyH_take (i := 15) (v := ?_) (by simp only [List.getElem?_toArray, List.getElem?_cons_succ, List.getElem?_cons_zero]; rfl) (by kernel_rfl) (by kernel_rfl) (by kernel_rfl) (by exact fun _ _ _ h => h) (Or.inl ⟨by rfl, ?_⟩) (by assumption) ?_; rotate_left 1; · (intro w hSw; (try dsimp only at hSw); go_simp; (try with_reducible rfl))) | (refine wpAnyH_take (i := 15) (v := undef) (by simp only [List.getElem?_toArray, List.getElem?_cons_succ, List.getElem?_cons_zero]; rfl) (by kernel_rfl) (by kernel_rfl) (by kernel_rfl) (by exact fun _ _ _ h => h) (Or.inr ⟨by rfl, rfl⟩) (by assumption) ?_)); (try simp only [Act.put, List.setIfInBounds_toArray, List.set_cons_zero, List.set_cons_succ]))
  (refine wpAnyH_ready (rs := [2]) (by kernel_rfl) (by simp) ?_; refine AllReadyH.cons (by simp only [List.getElem?_toArray, List.getElem?_cons_succ, List.getElem?_cons_zero]; rfl) (fun K hK => ?_) AllReadyH.nil; go_simp; go_at_call 48; refine (HDN.out _).mono ?_; rintro e w5 ⟨rfl, hb4⟩; (first | have HBN := Lib.hid (HBL.out.trans ((below_undrew2 hb4).mono HBL.out.size)) | have HBN := Lib.hid (HBL.out.trans (hb4.mono HBL.out.size))); replace HBL := HBN; clear HBN; refine hK.out _ _ (⟨cell_later hb4 hHeld.1, cell_later hb4 hHeld.2.1, cell_later hb4 hHeld.2.2.1, cell_later hb4 hHeld.2.2.2.1, cell_later hb4 hHeld.2.2.2.2.1, cell_later hb4 hHeld.2.2.2.2.2.1, cell_later hb4 hHeld.2.2.2.2.2.2.1, cell_later hb4 hHeld.2.2.2.2.2.2.2.1, cell_later hb4 hHeld.2.2.2.2.2.2.2.2.1, cell_later hb4 hHeld.2.2.2.2.2.2.2.2.2.1, cell_later hb4 hHeld.2.2.2.2.2.2.2.2.2.2.1, cell_later hb4 hHeld.2.2.2.2.2.2.2.2.2.2.2⟩) (fun hHeld => ?_); clear hK K; (try simp only [Act.put, List.setIfInBounds_toArray, List.set_cons_zero, List.set_cons_succ]))
  ((first | (refine wpAnyH_take (i := 3) (v := ?_) (by simp only [List.getElem?_toArray, List.getElem?_cons_succ, List.getElem?_cons_zero]; rfl) (by kernel_rfl) (by kernel_rfl) (by kernel_rfl) (by exact fun _ _ _ h => h) (Or.inl ⟨by rfl, ?_⟩) (by assumption) ?_; rotate_left 1; · (intro w hSw; (try dsimp only at hSw); go_simp; (try with_reducible rfl))) | (refine wpAnyH_take (i := 3) (v := undef) (by simp only [List.getElem?_toArray, List.getElem?_cons_succ, List.getElem?_cons_zero]; rfl) (by kernel_rfl) (by kernel_rfl) (by kernel_rfl) (by exact fun _ _ _ h => h) (Or.inr ⟨by rfl, rfl⟩) (by assumption) ?_)); (try simp only [Act.put, List.setIfInBounds_toArray, List.set_cons_zero, List.set_cons_succ]))
  ((first | (refine wpAnyH_take (i := 6) (v := ?_) (by simp only [List.getElem?_toArray, List.getElem?_cons_succ, List.getElem?_cons_zero]; rfl) (by kernel_rfl) (by kernel_rfl) (by kernel_rfl) (by exact fun _ _ _ h => h) (Or.inl ⟨by rfl, ?_⟩) (by assumption) ?_; rotate_left 1; · (intro w hSw; (try dsimp only at hSw); go_simp; (try with_reducible rfl))) | (refine wpAnyH_take (i := 6) (v := undef) (by simp only [List.getElem?_toArray, List.getElem?_cons_succ, List.getElem?_cons_zero]; rfl) (by kernel_rfl) (by kernel_rfl) (by kernel_rfl) (by exact fun _ _ _ h => h) (Or.inr ⟨by rfl, rfl⟩) (by assumption) ?_)); (try simp only [Act.put, List.setIfInBounds_toArray, List.set_cons_zero, List.set_cons_succ]))
  (refine wpAnyH_ready (rs := [9]) (by kernel_rfl) (by simp) ?_; refine AllReadyH.cons (by simp only [List.getElem?_toArray, List.getElem?_cons_succ, List.getElem?_cons_zero]; rfl) (fun K hK => ?_) AllReadyH.nil; go_simp; go_at_call 48; refine (HDB.out _).mono ?_; rintro e w5 ⟨rfl, hb4⟩; (first | have HBN := Lib.hid (HBL.out.trans ((below_undrew2 hb4).mono HBL.out.size)) | have HBN := Lib.hid (HBL.out.trans (hb4.mono HBL.out.size))); replace HBL := HBN; clear HBN; refine hK.out _ _ (⟨cell_later hb4 hHeld.1, cell_later hb4 hHeld.2.1, cell_later hb4 hHeld.2.2.1, cell_later hb4 hHeld.2.2.2.1, cell_later hb4 hHeld.2.2.2.2.1, cell_later hb4 hHeld.2.2.2.2.2.1, cell_later hb4 hHeld.2.2.2.2.2.2.1, cell_later hb4 hHeld.2.2.2.2.2.2.2.1, cell_later hb4 hHeld.2.2.2.2.2.2.2.2.1, cell_later hb4 hHeld.2.2.2.2.2.2.2.2.2.1, cell_later hb4 hHeld.2.2.2.2.2.2.2.2.2.2.1, cell_later hb4 hHeld.2.2.2.2.2.2.2.2.2.2.2⟩) (fun hHeld => ?_); clear hK K; (try simp only [Act.put, List.setIfInBounds_toArray, List.set_cons_zero, List.set_cons_succ]))
  ((first | (refine wpAnyH_take (i := 10) (v := ?_) (by simp only [List.getElem?_toArray, List.getElem?_cons_succ, List.getElem?_cons_zero]; rfl) (by kernel_rfl) (by kernel_rfl) (by kernel_rfl) (by exact fun _ _ _ h => h) (Or.inl ⟨by rfl, ?_⟩) (by assumption) ?_; rotate_left 1; · (intro w hSw; (try dsimp only at hSw); go_simp; (try with_reducible rfl))) | (refine wpAnyH_take (i := 10) (v := undef) (by simp only [List.getElem?_toArray, List.getElem?_cons_succ, List.getElem?_cons_zero]; rfl) (by kernel_rfl) (by kernel_rfl) (by kernel_rfl) (by exact fun _ _ _ h => h) (Or.inr ⟨by rfl, rfl⟩) (by assumption) ?_)); (try simp only [Act.put, List.setIfInBounds_toArray, List.set_cons_zero, List.set_cons_succ]))
  ((first | (refine wpAnyH_take (i := 13) (v := ?_) (by simp only [List.getElem?_toArray, List.getElem?_cons_succ, List.getElem?_cons_zero]; rfl) (by kernel_rfl) (by kernel_rfl) (by kernel_rfl) (by exact fun _ _ _ h => h) (Or.inl ⟨by rfl, ?_⟩) (by assumption) ?_; rotate_left 1; · (intro w hSw; (try dsimp only at hSw); go_simp; (try with_reducible rfl))) | (refine wpAnyH_take (i := 13) (v := undef) (by simp only [List.getElem?_toArray, List.getElem?_cons_succ, List.getElem?_cons_zero]; rfl) (by kernel_rfl) (by kernel_rfl) (by kernel_rfl) (by exact fun _ _ _ h => h) (Or.inr ⟨by rfl, rfl⟩) (by assumption) ?_)); (try simp only [Act.put, List.setIfInBounds_toArray, List.set_cons_zero, List.set_cons_succ]))
  (refine wpAnyH_ready (rs := [16]) (by kernel_rfl) (by simp) ?_; refine AllReadyH.cons (by simp only [List.getElem?_toArray, List.getElem?_cons_succ, List.getElem?_cons_zero]; rfl) (fun K hK => ?_) AllReadyH.nil; go_simp; go_at_call 48; refine (HDX.out _).mono ?_; rintro e w5 ⟨rfl, hb4⟩; (first | have HBN := Lib.hid (HBL.out.trans ((below_undrew2 hb4).mono HBL.out.size)) | have HBN := Lib.hid (HBL.out.trans (hb4.mono HBL.out.size))); replace HBL := HBN; clear HBN; refine hK.out _ _ (⟨cell_later hb4 hHeld.1, cell_later hb4 hHeld.2.1, cell_later hb4 hHeld.2.2.1, cell_later hb4 hHeld.2.2.2.1, cell_later hb4 hHeld.2.2.2.2.1, cell_later hb4 hHeld.2.2.2.2.2.1, cell_later hb4 hHeld.2.2.2.2.2.2.1, cell_later hb4 hHeld.2.2.2.2.2.2.2.1, cell_later hb4 hHeld.2.2.2.2.2.2.2.2.1, cell_later hb4 hHeld.2.2.2.2.2.2.2.2.2.1, cell_later hb4 hHeld.2.2.2.2.2.2.2.2.2.2.1, cell_later hb4 hHeld.2.2.2.2.2.2.2.2.2.2.2⟩) (fun hHeld => ?_); clear hK K; (try simp only [Act.put, List.setIfInBounds_toArray, List.set_cons_zero, List.set_cons_succ]))
  ((first | (refine wpAnyH_take (i := 17) (v := ?_) (by simp only [List.getElem?_toArray, List.getElem?_cons_succ, List.getElem?_cons_zero]; rfl) (by kernel_rfl) (by kernel_rfl) (by kernel_rfl) (by exact fun _ _ _ h => h) (Or.inl ⟨by rfl, ?_⟩) (by assumption) ?_; rotate_left 1; · (intro w hSw; (try dsimp only at hSw); go_simp; (try with_reducible rfl))) | (refine wpAnyH_take (i := 17) (v := undef) (by simp only [List.getElem?_toArray, List.getElem?_cons_succ, List.getElem?_cons_zero]; rfl) (by kernel_rfl) (by kernel_rfl) (by kernel_rfl) (by exact fun _ _ _ h => h) (Or.inr ⟨by rfl, rfl⟩) (by assumption) ?_)); (try simp only [Act.put, List.setIfInBounds_toArray, List.set_cons_zero, List.set_cons_succ]))
  ((first | (refine wpAnyH_take (i := 18) (v := ?_) (by simp only [List.getElem?_toArray, List.getElem?_cons_succ, List.getElem?_cons_zero]; rfl) (by kernel_rfl) (by kernel_rfl) (by kernel_rfl) (by exact fun _ _ _ h => h) (Or.inl ⟨by rfl, ?_⟩) (by assumption) ?_; rotate_left 1; · (intro w hSw; (try dsimp only at hSw); go_simp; (try with_reducible rfl))) | (refine wpAnyH_take (i := 18) (v := undef) (by simp only [List.getElem?_toArray, List.getElem?_cons_succ, List.getElem?_cons_zero]; rfl) (by kernel_rfl) (by kernel_rfl) (by kernel_rfl) (by exact fun _ _ _ h => h) (Or.inr ⟨by rfl, rfl⟩) (by assumption) ?_)); (try simp only [Act.put, List.setIfInBounds_toArray, List.set_cons_zero, List.set_cons_succ]))
  ((first | (refine wpAnyH_take (i := 19) (v := ?_) (by simp only [List.getElem?_toArray, List.getElem?_cons_succ, List.getElem?_cons_zero]; rfl) (by kernel_rfl) (by kernel_rfl) (by kernel_rfl) (by exact fun _ _ _ h => h) (Or.inl ⟨by rfl, ?_⟩) (by assumption) ?_; rotate_left 1; · (intro w hSw; (try dsimp only at hSw); go_simp; (try with_reducible rfl))) | (refine wpAnyH_take (i := 19) (v := undef) (by simp only [List.getElem?_toArray, List.getElem?_cons_succ, List.getElem?_cons_zero]; rfl) (by kernel_rfl) (by kernel_rfl) (by kernel_rfl) (by exact fun _ _ _ h => h) (Or.inr ⟨by rfl, rfl⟩) (by assumption) ?_)); (try simp only [Act.put, List.setIfInBounds_toArray, List.set_cons_zero, List.set_cons_succ]))
  (refine wpAnyH_done (by kernel_rfl) ?_ _)
  go_wp2_with fail
  go_ret2
  exact KeyPost.yes HVE.out (Zn.key_eq HMX.out E_RP.out E_NN.out E_DN.out E_DB.out E_DX.out) HBL.out
set_option maxRecDepth 100000 in
theorem rbuild_no (z : Zn.Z) (w : World) (hz : z.fits 140737488355328) (hv : Zn.vldE z ≠ 0) :
    Calls Tryz.prog 20 #[z.val] w (BldPost z w) := by
  have HVV := Lib.hid (show ∀ W, Calls Tryz.prog 24 #[.agg #[.int .i64 z.fmt, .string z.kind, .string z.state, .string z.sur, .string z.giv, .string z.num, .string z.nat, .string z.birth, .string z.sex, .string z.exp, .string z.opt, .string z.sec]] W fun e w' => e = .returned (.int .i64 (Zn.vldE z)) ∧ Below W.heap.size W w' from fun W => rvalidZ z W (Zn.fits_max hz))
  obtain ⟨vE, hvE⟩ : ∃ q, Zn.vldE z = q := ⟨_, rfl⟩
  rw [hvE] at HVV hv
  have HVE := Lib.hid hvE
  have hb1 := below_alloc1 w (.cells #[.int .i64 z.fmt, .string z.kind, .string z.state, .string z.sur, .string z.giv, .string z.num, .string z.nat, .string z.birth, .string z.sex, .string z.exp, .string z.opt, .string z.sec] 24)
  have hbx := zbox_new_at w z z.fmt rfl
  have e1 : (vE != 0) = true := by rw [bne_iff_ne]; exact hv
  have HE' := Lib.hid hv
  clear hvE hz hv
  unfold Zn.Z.val
  go_enter Tryz.func20, Tryz.ntmps20
  go_upto_region 1 with fail
  generalize w.alloc (.cells #[.int .i64 z.fmt, .string z.kind, .string z.state, .string z.sur, .string z.giv, .string z.num, .string z.nat, .string z.birth, .string z.sex, .string z.exp, .string z.opt, .string z.sec] 24) = w1 at hb1 hbx ⊢
  have HB1 := Lib.hid hb1
  obtain ⟨x0, x1, x2, x3, x4, x5, x6, x7, x8, x9, x10, x11⟩ := hbx
  clear hb1
  go_wp2_with fail
  refine (HVV.out _).mono ?_; rintro e w2 ⟨rfl, hb2⟩
  have HBL := Lib.hid (HB1.out.trans (hb2.mono HB1.out.size))
  clear hb2 HB1 x0 x1 x2 x3 x4 x5 x6 x7 x8 x9 x10 x11
  go_wp2_with fail
  go_ret2
  exact BldPost.no HE'.out HVE.out HBL.out
theorem rbuild (z : Zn.Z) (w : World) (hz : z.fits 140737488355328) (hab : z.sur.size + z.giv.size ≤ 140737488355000) :
    Calls Tryz.prog 20 #[z.val] w (BldPost z w) := by
  by_cases hv : Zn.vldE z = 0
  · have hvl : ∀ W, Calls Tryz.prog 24 #[z.val] W fun e w' => e = .returned (.int .i64 0) ∧ Below W.heap.size W w' := fun W => hv ▸ rvalidZ z W (Zn.fits_max hz)
    have hf := (Zn.good_of hv).fmt
    have h3 : z.fmt = 1 ∨ z.fmt = 2 ∨ z.fmt = 3 := by omega
    unfold Zn.Z.val at hvl ⊢
    rcases h3 with h | h | h
    · have := rbuild_1 z w h hv hab (by rw [h] at hvl; exact hvl)
      rw [h]; exact this
    · have := rbuild_2 z w h hv hab (by rw [h] at hvl; exact hvl)
      rw [h]; exact this
    · have := rbuild_3 z w h hv hab (by rw [h] at hvl; exact hvl)
      rw [h]; exact this
  · exact rbuild_no z w hz hv
end Go.Proofs.YtelngghecmkipaaGreatDoor
