/- Chapter 11: the walk of put of a sheet. -/
import Derived.Test.YtelngghecmkipaaGreatDoorZonPut0
import Derived.Test.YtelngghecmkipaaGreatDoorZonSheet2
namespace Go.Proofs.YtelngghecmkipaaGreatDoor
open Go.RowKit

/-- What put leaves. -/
def PutPost (base g f : Nat) (rows : List Ln) (i : Nat) (t : List UInt8) (w : World) (e : Ending) (w' : World) : Prop :=
  e = .returned (.tuple #[]) ∧ ∃ rows', SheetAt w' base g f rows' ∧ rows'.map (·.1) = rows.map (·.1) ∧ Ln.txt rows' = Zn.putL f (Ln.txt rows) i t ∧ Zn.Shaped f (Ln.txt rows') ∧ ∃ k, k ∈ rows.map (·.1) ∧ w.grownBy w' (some k)

set_option maxRecDepth 100000 in
set_option maxHeartbeats 4000000 in
theorem zput (w : World) (base g f : Nat) (rows : List Ln) (hf : 1 ≤ f ∧ f ≤ 3) (h : SheetAt w base g f rows) (hL : Zn.Shaped f (Ln.txt rows)) (i : Nat) (hi : i < 15) (t : List UInt8) (ht : t.length ≤ 140737488355328) :
    Calls Tryz.prog 49 #[.pointer (some ⟨g, 0, none⟩), .int .i64 i, .string ⟨t.toArray⟩] w (PutPost base g f rows i t w) := by
  have hb0 := below_alloc1 w (.cells #[.int .i64 (Zn.place f i).1, .int .i64 (Zn.place f i).2.1, .int .i64 (Zn.place f i).2.2] 55)
  obtain ⟨hp1, hp2⟩ := Zn.place_in f hf i hi
  have hlen : rows.length = Zn.nLines f := by have := hL.1; unfold Ln.txt at this; rwa [List.length_map] at this
  have HPUT := Lib.hid (fun w1 (hb : Below w.heap.size w w1) => sheet_put h hL hf hb i hi t (by omega))
  obtain ⟨v, hs, hl, hgb⟩ := h
  obtain ⟨e0, e1, e2⟩ := Zn.lay_at f hf i hi
  have hsz := Zn.lay_size f
  have c0 := (hs.cell (3 * i) (by omega)).trans e0
  have c1 := (hs.cell (3 * i + 1) (by omega)).trans e1
  have c2 := (hs.cell (3 * i + 2) (by omega)).trans e2
  have c45 := hs.last
  rw [hsz] at c45
  have hnl : Zn.nLines f ≤ 3 ∧ 2 ≤ Zn.nLines f := by unfold Zn.nLines; split <;> omega
  obtain ⟨b, c, rfl, hb1, hb2, hc1, hc2, hline⟩ := hl.line (by omega)
  obtain ⟨hcell, hbytes, hcap, hblk⟩ := hline (Zn.place f i).1 (by omega)
  have hll : rows[(Zn.place f i).1].2.2.length = Zn.wLine f := hL.2 _ (by unfold Ln.txt; exact List.mem_map.2 ⟨_, List.getElem_mem _, rfl⟩)
  have hrm : rows[(Zn.place f i).1] ∈ rows := List.getElem_mem _
  obtain ⟨m1, m2, m3, m4, m5⟩ := hl.2.2 _ hrm
  have hkm : rows[(Zn.place f i).1].1 ∈ rows.map (·.1) := List.mem_map.2 ⟨_, hrm, rfl⟩
  have hwl : Zn.wLine f ≤ 44 := by unfold Zn.wLine; split; · omega
                                   split <;> omega
  unfold Ln.val at hcell
  rw [hll] at hcell hcap
  obtain ⟨ln, hln⟩ : ∃ q, (Zn.place f i).1 = q := ⟨_, rfl⟩
  obtain ⟨at_, hat⟩ : ∃ q, (Zn.place f i).2.1 = q := ⟨_, rfl⟩
  obtain ⟨wd, hwd⟩ : ∃ q, (Zn.place f i).2.2 = q := ⟨_, rfl⟩
  obtain ⟨k, hk⟩ : ∃ q, rows[(Zn.place f i).1].1 = q := ⟨_, rfl⟩
  obtain ⟨cp, hcp⟩ : ∃ q, rows[(Zn.place f i).1].2.1 = q := ⟨_, rfl⟩
  rw [hk, hcp] at hcell
  rw [hcp] at hcap
  rw [hk] at hkm hblk hbytes m1 m3
  simp only [hk] at HPUT
  rw [hat, hwd] at hp2 HPUT
  rw [hln] at hcell hp1 c0 hb0
  rw [hat] at c1 hb0
  rw [hwd] at c2 hb0
  rw [Nat.mul_comm] at c0 c1 c2
  have hbg : b ≠ g := by omega
  have hkb : k ≠ b := fun e => m3 (by rw [e]; rfl)
  have hkg : k ≠ g := by omega
  have hll2 : rows[(Zn.place f i).1].2.2.length = Zn.wLine f := hll
  have HBY := Lib.hid (show ∀ j, j < Zn.wLine f → (w.cell? ⟨k, j, none⟩).isSome = true ∧ w.frozen? ⟨k, j, none⟩ = false from fun j hj => by have hh := hbytes j (by omega); exact ⟨by rw [hh.1]; rfl, hh.2⟩)
  have HKM := Lib.hid hkm
  have hlnr : ln < rows.length := by omega
  clear hline hsz e0 e1 e2 hL hs hl hgb hbytes m1 m2 m3 m4 m5 hrm hkm hll hll2 hln hat hwd hk hcp hlen
  rcases Nat.eq_zero_or_pos wd with h0 | h0
  · subst h0
    have HB0 := Lib.hid hb0
    have eg : decide ((0 : Int) < ((0 : Nat) : Int)) = false := rfl
    have h2 := HPUT.out _ hb0
    have e0 : Zn.wide_ t 0 = [] := List.take_zero
    rw [e0] at h2
    have HP := Lib.hid h2
    clear h2 hb0 HPUT e0
    go_enter Tryz.func49, Tryz.ntmps49
    go_wp2_with fail
    refine bodyPost_ret (v := .tuple #[]) (by simp [results, Tryz.results49, go_sem]) rfl ?_
    obtain ⟨rows', r1, r2, r3, r4, r5⟩ := HP.out
    exact ⟨rfl, rows', r1, r2, r3, r5, k, HKM.out, r4⟩
  have HB0 := Lib.hid hb0
  have hrp : ∀ W, Calls Tryz.prog 46 #[.string ⟨#[60]⟩, .int .i64 wd] W fun e w' => e = .returned (.string ⟨(List.replicate wd (60 : UInt8)).toArray⟩) ∧ Below W.heap.size W w' := fun W => by
    have h := orepeat wd W (by omega) (by omega)
    rw [Int.toNat_natCast] at h; exact h
  obtain ⟨FI, hFI⟩ : ∃ q : ByteArray, q = ⟨(List.replicate wd (60 : UInt8)).toArray⟩ := ⟨_, rfl⟩
  obtain ⟨TT, hTT⟩ : ∃ q : ByteArray, q = ⟨t.toArray⟩ := ⟨_, rfl⟩
  rw [← hFI] at hrp
  rw [← hTT]
  have HRP := Lib.hid hrp
  have zF : FI.size = wd := by rw [hFI, str_size, List.length_replicate]
  have zT : TT.size ≤ 140737488355328 := by rw [hTT, str_size]; exact ht
  have hsum : (TT ++ FI).data.toList.take wd = Zn.wide_ t wd := by rw [hTT, hFI, str_add]; rfl
  have zS : wd ≤ (TT ++ FI).size := by rw [ByteArray.size_append, zF]; omega
  have HSUM := Lib.hid hsum; have HZS := Lib.hid zS
  have hlw : at_ + wd ≤ cp := by omega
  have ew : decide ((0 : Int) < (wd : Int)) = true := decide_eq_true (by omega)
  have hwd44 : wd ≤ 44 := by omega
  clear hFI hTT hrp hsum zS hb0
  go_enter Tryz.func49, Tryz.ntmps49
  go_upto_region 2 with fail
  have a45 : ((w.alloc (.cells #[.int .i64 ln, .int .i64 at_, .int .i64 wd] 55)).drew).cell? ⟨g, 45, none⟩ = some (.slice (some ⟨b, 0, none⟩) rows.length c) := cell_later HB0.out.drew c45
  have aln : ((w.alloc (.cells #[.int .i64 ln, .int .i64 at_, .int .i64 wd] 55)).drew).cell? ⟨b, ln, none⟩ = some (.slice (some ⟨k, 0, none⟩) (Zn.wLine f) cp) := cell_later HB0.out.drew hcell
  have b0 : ((w.alloc (.cells #[.int .i64 ln, .int .i64 at_, .int .i64 wd] 55)).drew).cell? ⟨w.heap.size, 0, none⟩ = some (.int .i64 ln) := cell_new w _ _ 0
  have b1 : ((w.alloc (.cells #[.int .i64 ln, .int .i64 at_, .int .i64 wd] 55)).drew).cell? ⟨w.heap.size, 1, none⟩ = some (.int .i64 at_) := cell_new w _ _ 1
  have b2 : ((w.alloc (.cells #[.int .i64 ln, .int .i64 at_, .int .i64 wd] 55)).drew).cell? ⟨w.heap.size, 2, none⟩ = some (.int .i64 wd) := cell_new w _ _ 2
  obtain ⟨B0, hB0⟩ : ∃ q, w.heap.size = q := ⟨_, rfl⟩
  have hBk : k ≠ B0 := by omega
  have hBlt := HB0.out
  clear c0 c1 c2 c45 hcell
  generalize hwa : w.alloc (.cells #[.int .i64 ln, .int .i64 at_, .int .i64 wd] 55) = w1 at *
  clear hwa
  have HB1 := Lib.hid hBlt; have HHB := Lib.hid hB0
  rw [hB0] at b0 b1 b2 ⊢
  clear hBlt hB0 HB0
  have i1 : (at_ : Int) + (wd : Int) ≤ (cp : Int) := by omega
  have i2 : (0 : Int) ≤ (at_ : Int) + (wd : Int) := by omega
  have i3 : (at_ : Int) ≤ (at_ : Int) + (wd : Int) := by omega
  have i4 : (at_ : Int) ≤ (cp : Int) := by omega
  have i5 : ¬ (9223372036854775807 < TT.size + wd) := by omega
  have i6 : (ln : Int) < (rows.length : Int) := by omega
  have i7 : ¬ (cp = at_) := by omega
  have i8 : ((at_ : Int) + (wd : Int)).toNat = at_ + wd := by omega
  have i9 : at_ + wd - at_ = wd := by omega
  have e2 : IntKind.i64.wrap ((at_ : Int) + (wd : Int)) = (at_ : Int) + (wd : Int) := IntWalk.i64_in _ (by omega)
  (refine wp_region_held_drew (S := (fun W => W.cell? ⟨g, 45, none⟩ = some (.slice (some ⟨b, 0, none⟩) rows.length c) ∧ W.cell? ⟨b, ln, none⟩ = some (.slice (some ⟨k, 0, none⟩) (Zn.wLine f) cp) ∧ W.cell? ⟨B0, 0, none⟩ = some (.int .i64 ln) ∧ W.cell? ⟨B0, 1, none⟩ = some (.int .i64 at_) ∧ W.cell? ⟨B0, 2, none⟩ = some (.int .i64 wd))) (by kernel_rfl) (show _ ∧ _ ∧ _ ∧ _ ∧ _ from ⟨a45, aln, b0, b1, b2⟩) (fun hHeld => ?_))
  ((first | (refine wpAnyH_take (i := 0) (v := ?_) (by simp only [List.getElem?_toArray, List.getElem?_cons_zero]; rfl) (by kernel_rfl) (by kernel_rfl) (by kernel_rfl) (by exact fun _ _ _ h => h) (Or.inl ⟨by rfl, ?_⟩) (by assumption) ?_; rotate_left 1; · (intro w hSw; (try dsimp only at hSw); go_simp; (try with_reducible rfl))) | (refine wpAnyH_take (i := 0) (v := undef) (by simp only [List.getElem?_toArray, List.getElem?_cons_zero]; rfl) (by kernel_rfl) (by kernel_rfl) (by kernel_rfl) (by exact fun _ _ _ h => h) (Or.inr ⟨by rfl, rfl⟩) (by assumption) ?_)); (try simp only [Act.put, List.setIfInBounds_toArray, List.set_cons_zero, List.set_cons_succ]))
  ((first | (refine wpAnyH_take (i := 1) (v := ?_) (by simp only [List.getElem?_toArray, List.getElem?_cons_succ, List.getElem?_cons_zero]; rfl) (by kernel_rfl) (by kernel_rfl) (by kernel_rfl) (by exact fun _ _ _ h => h) (Or.inl ⟨by rfl, ?_⟩) (by assumption) ?_; rotate_left 1; · (intro w hSw; (try dsimp only at hSw); go_simp; (try with_reducible rfl))) | (refine wpAnyH_take (i := 1) (v := undef) (by simp only [List.getElem?_toArray, List.getElem?_cons_succ, List.getElem?_cons_zero]; rfl) (by kernel_rfl) (by kernel_rfl) (by kernel_rfl) (by exact fun _ _ _ h => h) (Or.inr ⟨by rfl, rfl⟩) (by assumption) ?_)); (try simp only [Act.put, List.setIfInBounds_toArray, List.set_cons_zero, List.set_cons_succ]))
  ((first | (refine wpAnyH_take (i := 2) (v := ?_) (by simp only [List.getElem?_toArray, List.getElem?_cons_succ, List.getElem?_cons_zero]; rfl) (by kernel_rfl) (by kernel_rfl) (by kernel_rfl) (by exact fun _ _ _ h => h) (Or.inl ⟨by rfl, ?_⟩) (by assumption) ?_; rotate_left 1; · (intro w hSw; (try dsimp only at hSw); go_simp; (try with_reducible rfl))) | (refine wpAnyH_take (i := 2) (v := undef) (by simp only [List.getElem?_toArray, List.getElem?_cons_succ, List.getElem?_cons_zero]; rfl) (by kernel_rfl) (by kernel_rfl) (by kernel_rfl) (by exact fun _ _ _ h => h) (Or.inr ⟨by rfl, rfl⟩) (by assumption) ?_)); (try simp only [Act.put, List.setIfInBounds_toArray, List.set_cons_zero, List.set_cons_succ]))
  ((first | (refine wpAnyH_take (i := 3) (v := ?_) (by simp only [List.getElem?_toArray, List.getElem?_cons_succ, List.getElem?_cons_zero]; rfl) (by kernel_rfl) (by kernel_rfl) (by kernel_rfl) (by exact fun _ _ _ h => h) (Or.inl ⟨by rfl, ?_⟩) (by assumption) ?_; rotate_left 1; · (intro w hSw; (try dsimp only at hSw); go_simp; (try with_reducible rfl))) | (refine wpAnyH_take (i := 3) (v := undef) (by simp only [List.getElem?_toArray, List.getElem?_cons_succ, List.getElem?_cons_zero]; rfl) (by kernel_rfl) (by kernel_rfl) (by kernel_rfl) (by exact fun _ _ _ h => h) (Or.inr ⟨by rfl, rfl⟩) (by assumption) ?_)); (try simp only [Act.put, List.setIfInBounds_toArray, List.set_cons_zero, List.set_cons_succ]))
  ((first | (refine wpAnyH_take (i := 4) (v := ?_) (by simp only [List.getElem?_toArray, List.getElem?_cons_succ, List.getElem?_cons_zero]; rfl) (by kernel_rfl) (by kernel_rfl) (by kernel_rfl) (by exact fun _ _ _ h => h) (Or.inl ⟨by rfl, ?_⟩) (by assumption) ?_; rotate_left 1; · (intro w hSw; (try dsimp only at hSw); go_simp; (try with_reducible rfl))) | (refine wpAnyH_take (i := 4) (v := undef) (by simp only [List.getElem?_toArray, List.getElem?_cons_succ, List.getElem?_cons_zero]; rfl) (by kernel_rfl) (by kernel_rfl) (by kernel_rfl) (by exact fun _ _ _ h => h) (Or.inr ⟨by rfl, rfl⟩) (by assumption) ?_)); (try simp only [Act.put, List.setIfInBounds_toArray, List.set_cons_zero, List.set_cons_succ]))
  ((first | (refine wpAnyH_take (i := 5) (v := ?_) (by simp only [List.getElem?_toArray, List.getElem?_cons_succ, List.getElem?_cons_zero]; rfl) (by kernel_rfl) (by kernel_rfl) (by kernel_rfl) (by exact fun _ _ _ h => h) (Or.inl ⟨by rfl, ?_⟩) (by assumption) ?_; rotate_left 1; · (intro w hSw; (try dsimp only at hSw); go_simp; (try with_reducible rfl))) | (refine wpAnyH_take (i := 5) (v := undef) (by simp only [List.getElem?_toArray, List.getElem?_cons_succ, List.getElem?_cons_zero]; rfl) (by kernel_rfl) (by kernel_rfl) (by kernel_rfl) (by exact fun _ _ _ h => h) (Or.inr ⟨by rfl, rfl⟩) (by assumption) ?_)); (try simp only [Act.put, List.setIfInBounds_toArray, List.set_cons_zero, List.set_cons_succ]))
  ((first | (refine wpAnyH_take (i := 6) (v := ?_) (by simp only [List.getElem?_toArray, List.getElem?_cons_succ, List.getElem?_cons_zero]; rfl) (by kernel_rfl) (by kernel_rfl) (by kernel_rfl) (by exact fun _ _ _ h => h) (Or.inl ⟨by rfl, ?_⟩) (by assumption) ?_; rotate_left 1; · (intro w hSw; (try dsimp only at hSw); go_simp; (try with_reducible rfl))) | (refine wpAnyH_take (i := 6) (v := undef) (by simp only [List.getElem?_toArray, List.getElem?_cons_succ, List.getElem?_cons_zero]; rfl) (by kernel_rfl) (by kernel_rfl) (by kernel_rfl) (by exact fun _ _ _ h => h) (Or.inr ⟨by rfl, rfl⟩) (by assumption) ?_)); (try simp only [Act.put, List.setIfInBounds_toArray, List.set_cons_zero, List.set_cons_succ]))
  ((first | (refine wpAnyH_take (i := 7) (v := ?_) (by simp only [List.getElem?_toArray, List.getElem?_cons_succ, List.getElem?_cons_zero]; rfl) (by kernel_rfl) (by kernel_rfl) (by kernel_rfl) (by exact fun _ _ _ h => h) (Or.inl ⟨by rfl, ?_⟩) (by assumption) ?_; rotate_left 1; · (intro w hSw; (try dsimp only at hSw); go_simp; (try with_reducible rfl))) | (refine wpAnyH_take (i := 7) (v := undef) (by simp only [List.getElem?_toArray, List.getElem?_cons_succ, List.getElem?_cons_zero]; rfl) (by kernel_rfl) (by kernel_rfl) (by kernel_rfl) (by exact fun _ _ _ h => h) (Or.inr ⟨by rfl, rfl⟩) (by assumption) ?_)); (try simp only [Act.put, List.setIfInBounds_toArray, List.set_cons_zero, List.set_cons_succ]))
  ((first | (refine wpAnyH_take (i := 8) (v := ?_) (by simp only [List.getElem?_toArray, List.getElem?_cons_succ, List.getElem?_cons_zero]; rfl) (by kernel_rfl) (by kernel_rfl) (by kernel_rfl) (by exact fun _ _ _ h => h) (Or.inl ⟨by rfl, ?_⟩) (by assumption) ?_; rotate_left 1; · (intro w hSw; (try dsimp only at hSw); go_simp; (try with_reducible rfl))) | (refine wpAnyH_take (i := 8) (v := undef) (by simp only [List.getElem?_toArray, List.getElem?_cons_succ, List.getElem?_cons_zero]; rfl) (by kernel_rfl) (by kernel_rfl) (by kernel_rfl) (by exact fun _ _ _ h => h) (Or.inr ⟨by rfl, rfl⟩) (by assumption) ?_)); (try simp only [Act.put, List.setIfInBounds_toArray, List.set_cons_zero, List.set_cons_succ]))
  ((first | (refine wpAnyH_take (i := 9) (v := ?_) (by simp only [List.getElem?_toArray, List.getElem?_cons_succ, List.getElem?_cons_zero]; rfl) (by kernel_rfl) (by kernel_rfl) (by kernel_rfl) (by exact fun _ _ _ h => h) (Or.inl ⟨by rfl, ?_⟩) (by assumption) ?_; rotate_left 1; · (intro w hSw; (try dsimp only at hSw); go_simp; (try with_reducible rfl))) | (refine wpAnyH_take (i := 9) (v := undef) (by simp only [List.getElem?_toArray, List.getElem?_cons_succ, List.getElem?_cons_zero]; rfl) (by kernel_rfl) (by kernel_rfl) (by kernel_rfl) (by exact fun _ _ _ h => h) (Or.inr ⟨by rfl, rfl⟩) (by assumption) ?_)); (try simp only [Act.put, List.setIfInBounds_toArray, List.set_cons_zero, List.set_cons_succ]))
  ((first | (refine wpAnyH_take (i := 10) (v := ?_) (by simp only [List.getElem?_toArray, List.getElem?_cons_succ, List.getElem?_cons_zero]; rfl) (by kernel_rfl) (by kernel_rfl) (by kernel_rfl) (by exact fun _ _ _ h => h) (Or.inl ⟨by rfl, ?_⟩) (by assumption) ?_; rotate_left 1; · (intro w hSw; (try dsimp only at hSw); go_simp; (try with_reducible rfl))) | (refine wpAnyH_take (i := 10) (v := undef) (by simp only [List.getElem?_toArray, List.getElem?_cons_succ, List.getElem?_cons_zero]; rfl) (by kernel_rfl) (by kernel_rfl) (by kernel_rfl) (by exact fun _ _ _ h => h) (Or.inr ⟨by rfl, rfl⟩) (by assumption) ?_)); (try simp only [Act.put, List.setIfInBounds_toArray, List.set_cons_zero, List.set_cons_succ]))
  ((first | (refine wpAnyH_take (i := 11) (v := ?_) (by simp only [List.getElem?_toArray, List.getElem?_cons_succ, List.getElem?_cons_zero]; rfl) (by kernel_rfl) (by kernel_rfl) (by kernel_rfl) (by exact fun _ _ _ h => h) (Or.inl ⟨by rfl, ?_⟩) (by assumption) ?_; rotate_left 1; · (intro w hSw; (try dsimp only at hSw); go_simp; (try with_reducible rfl))) | (refine wpAnyH_take (i := 11) (v := undef) (by simp only [List.getElem?_toArray, List.getElem?_cons_succ, List.getElem?_cons_zero]; rfl) (by kernel_rfl) (by kernel_rfl) (by kernel_rfl) (by exact fun _ _ _ h => h) (Or.inr ⟨by rfl, rfl⟩) (by assumption) ?_)); (try simp only [Act.put, List.setIfInBounds_toArray, List.set_cons_zero, List.set_cons_succ]))
  ((first | (refine wpAnyH_take (i := 12) (v := ?_) (by simp only [List.getElem?_toArray, List.getElem?_cons_succ, List.getElem?_cons_zero]; rfl) (by kernel_rfl) (by kernel_rfl) (by kernel_rfl) (by exact fun _ _ _ h => h) (Or.inl ⟨by rfl, ?_⟩) (by assumption) ?_; rotate_left 1; · (intro w hSw; (try dsimp only at hSw); go_simp; (try with_reducible rfl))) | (refine wpAnyH_take (i := 12) (v := undef) (by simp only [List.getElem?_toArray, List.getElem?_cons_succ, List.getElem?_cons_zero]; rfl) (by kernel_rfl) (by kernel_rfl) (by kernel_rfl) (by exact fun _ _ _ h => h) (Or.inr ⟨by rfl, rfl⟩) (by assumption) ?_)); (try simp only [Act.put, List.setIfInBounds_toArray, List.set_cons_zero, List.set_cons_succ]))
  ((first | (refine wpAnyH_take (i := 13) (v := ?_) (by simp only [List.getElem?_toArray, List.getElem?_cons_succ, List.getElem?_cons_zero]; rfl) (by kernel_rfl) (by kernel_rfl) (by kernel_rfl) (by exact fun _ _ _ h => h) (Or.inl ⟨by rfl, ?_⟩) (by assumption) ?_; rotate_left 1; · (intro w hSw; (try dsimp only at hSw); go_simp; (try with_reducible rfl))) | (refine wpAnyH_take (i := 13) (v := undef) (by simp only [List.getElem?_toArray, List.getElem?_cons_succ, List.getElem?_cons_zero]; rfl) (by kernel_rfl) (by kernel_rfl) (by kernel_rfl) (by exact fun _ _ _ h => h) (Or.inr ⟨by rfl, rfl⟩) (by assumption) ?_)); (try simp only [Act.put, List.setIfInBounds_toArray, List.set_cons_zero, List.set_cons_succ]))
  ((first | (refine wpAnyH_take (i := 14) (v := ?_) (by simp only [List.getElem?_toArray, List.getElem?_cons_succ, List.getElem?_cons_zero]; rfl) (by kernel_rfl) (by kernel_rfl) (by kernel_rfl) (by exact fun _ _ _ h => h) (Or.inl ⟨by rfl, ?_⟩) (by assumption) ?_; rotate_left 1; · (intro w hSw; (try dsimp only at hSw); go_simp; (try with_reducible rfl))) | (refine wpAnyH_take (i := 14) (v := undef) (by simp only [List.getElem?_toArray, List.getElem?_cons_succ, List.getElem?_cons_zero]; rfl) (by kernel_rfl) (by kernel_rfl) (by kernel_rfl) (by exact fun _ _ _ h => h) (Or.inr ⟨by rfl, rfl⟩) (by assumption) ?_)); (try simp only [Act.put, List.setIfInBounds_toArray, List.set_cons_zero, List.set_cons_succ]))
  ((first | (refine wpAnyH_take (i := 15) (v := ?_) (by simp only [List.getElem?_toArray, List.getElem?_cons_succ, List.getElem?_cons_zero]; rfl) (by kernel_rfl) (by kernel_rfl) (by kernel_rfl) (by exact fun _ _ _ h => h) (Or.inl ⟨by rfl, ?_⟩) (by assumption) ?_; rotate_left 1; · (intro w hSw; (try dsimp only at hSw); go_simp; (try with_reducible rfl))) | (refine wpAnyH_take (i := 15) (v := undef) (by simp only [List.getElem?_toArray, List.getElem?_cons_succ, List.getElem?_cons_zero]; rfl) (by kernel_rfl) (by kernel_rfl) (by kernel_rfl) (by exact fun _ _ _ h => h) (Or.inr ⟨by rfl, rfl⟩) (by assumption) ?_)); (try simp only [Act.put, List.setIfInBounds_toArray, List.set_cons_zero, List.set_cons_succ]))
  ((first | (refine wpAnyH_take (i := 16) (v := ?_) (by simp only [List.getElem?_toArray, List.getElem?_cons_succ, List.getElem?_cons_zero]; rfl) (by kernel_rfl) (by kernel_rfl) (by kernel_rfl) (by exact fun _ _ _ h => h) (Or.inl ⟨by rfl, ?_⟩) (by assumption) ?_; rotate_left 1; · (intro w hSw; (try dsimp only at hSw); go_simp; (try with_reducible rfl))) | (refine wpAnyH_take (i := 16) (v := undef) (by simp only [List.getElem?_toArray, List.getElem?_cons_succ, List.getElem?_cons_zero]; rfl) (by kernel_rfl) (by kernel_rfl) (by kernel_rfl) (by exact fun _ _ _ h => h) (Or.inr ⟨by rfl, rfl⟩) (by assumption) ?_)); (try simp only [Act.put, List.setIfInBounds_toArray, List.set_cons_zero, List.set_cons_succ]))
  ((first | (refine wpAnyH_take (i := 17) (v := ?_) (by simp only [List.getElem?_toArray, List.getElem?_cons_succ, List.getElem?_cons_zero]; rfl) (by kernel_rfl) (by kernel_rfl) (by kernel_rfl) (by exact fun _ _ _ h => h) (Or.inl ⟨by rfl, ?_⟩) (by assumption) ?_; rotate_left 1; · (intro w hSw; (try dsimp only at hSw); go_simp; (try with_reducible rfl))) | (refine wpAnyH_take (i := 17) (v := undef) (by simp only [List.getElem?_toArray, List.getElem?_cons_succ, List.getElem?_cons_zero]; rfl) (by kernel_rfl) (by kernel_rfl) (by kernel_rfl) (by exact fun _ _ _ h => h) (Or.inr ⟨by rfl, rfl⟩) (by assumption) ?_)); (try simp only [Act.put, List.setIfInBounds_toArray, List.set_cons_zero, List.set_cons_succ]))
  ((first | (refine wpAnyH_take (i := 18) (v := ?_) (by simp only [List.getElem?_toArray, List.getElem?_cons_succ, List.getElem?_cons_zero]; rfl) (by kernel_rfl) (by kernel_rfl) (by kernel_rfl) (by exact fun _ _ _ h => h) (Or.inl ⟨by rfl, ?_⟩) (by assumption) ?_; rotate_left 1; · (intro w hSw; (try dsimp only at hSw); go_simp; (try with_reducible rfl))) | (refine wpAnyH_take (i := 18) (v := undef) (by simp only [List.getElem?_toArray, List.getElem?_cons_succ, List.getElem?_cons_zero]; rfl) (by kernel_rfl) (by kernel_rfl) (by kernel_rfl) (by exact fun _ _ _ h => h) (Or.inr ⟨by rfl, rfl⟩) (by assumption) ?_)); (try simp only [Act.put, List.setIfInBounds_toArray, List.set_cons_zero, List.set_cons_succ]))
  (refine wpAnyH_ready (rs := [19]) (by kernel_rfl) (by simp) ?_; refine AllReadyH.cons (by simp only [List.getElem?_toArray, List.getElem?_cons_succ, List.getElem?_cons_zero]; rfl) (fun K hK => ?_) AllReadyH.nil; go_simp; go_at_call 46; refine (HRP.out _).mono ?_; rintro e w5 ⟨rfl, hb4⟩; have HB5 := Lib.hid (HB1.out.trans ((below_of_drew hb4).mono HB1.out.size)); refine hK.out _ _ (⟨cell_later hb4 hHeld.1, cell_later hb4 hHeld.2.1, cell_later hb4 hHeld.2.2.1, cell_later hb4 hHeld.2.2.2.1, cell_later hb4 hHeld.2.2.2.2⟩) (fun hHeld => ?_); clear hK K; (try simp only [Act.put, List.setIfInBounds_toArray, List.set_cons_zero, List.set_cons_succ]))
  ((first | (refine wpAnyH_take (i := 20) (v := ?_) (by simp only [List.getElem?_toArray, List.getElem?_cons_succ, List.getElem?_cons_zero]; rfl) (by kernel_rfl) (by kernel_rfl) (by kernel_rfl) (by exact fun _ _ _ h => h) (Or.inl ⟨by rfl, ?_⟩) (by assumption) ?_; rotate_left 1; · (intro w hSw; (try dsimp only at hSw); go_simp; (try with_reducible rfl))) | (refine wpAnyH_take (i := 20) (v := undef) (by simp only [List.getElem?_toArray, List.getElem?_cons_succ, List.getElem?_cons_zero]; rfl) (by kernel_rfl) (by kernel_rfl) (by kernel_rfl) (by exact fun _ _ _ h => h) (Or.inr ⟨by rfl, rfl⟩) (by assumption) ?_)); (try simp only [Act.put, List.setIfInBounds_toArray, List.set_cons_zero, List.set_cons_succ]))
  (refine wpAnyH_ready (rs := [21]) (by kernel_rfl) (by simp) ?_; refine AllReadyH.cons (by simp only [List.getElem?_toArray, List.getElem?_cons_succ, List.getElem?_cons_zero]; rfl) (fun K hK => ?_) AllReadyH.nil; refine step_copy_cut (by rfl) _ _ _ _ (by rfl) 5 Tryz.underlying41 (fun _ => by kernel_rfl) k at_ wd (cp - at_) (by rfl) _ (Zn.wide_ t wd) (by rfl) ?c1 ?c2 ?c3 ?c4 ?_)
  case c1 => exact HZS.out
  case c2 => exact HSUM.out.symm
  case c3 => intro j hj; have hh := (HBY.out (at_ + j) (by omega)).1; obtain ⟨u, hu⟩ := Option.isSome_iff_exists.1 hh; rw [cell_later HB5.out hu]; rfl
  case c4 => intro j hj; rw [HB5.out.frozen (p := ⟨k, at_ + j, none⟩) hblk]; exact (HBY.out (at_ + j) (by omega)).2
  have hout : ∀ (x : Addr), x.block ≠ k → (w5.setCells k at_ (BL (Zn.wide_ t wd))).cell? x = w5.cell? x := fun x hx => World.cell?_setCells_out k _ _ _ _ (fun h => absurd h hx)
  refine hK.out _ _ (show _ ∧ _ ∧ _ ∧ _ ∧ _ from ⟨(hout ⟨g, 45, none⟩ (by exact fun h => hkg h.symm)).trans hHeld.1, (hout ⟨b, ln, none⟩ (by exact fun h => hkb h.symm)).trans hHeld.2.1, (hout ⟨B0, 0, none⟩ (by exact fun h => hBk h.symm)).trans hHeld.2.2.1, (hout ⟨B0, 1, none⟩ (by exact fun h => hBk h.symm)).trans hHeld.2.2.2.1, (hout ⟨B0, 2, none⟩ (by exact fun h => hBk h.symm)).trans hHeld.2.2.2.2⟩) (fun hHeld2 => ?_)
  clear hK K hHeld2 hHeld hout
  (try simp only [Act.put, List.setIfInBounds_toArray, List.set_cons_zero, List.set_cons_succ])
  (refine wpAnyH_done (by kernel_rfl) ?_ _)
  obtain ⟨rows', r1, r2, r3, r4, r5⟩ := HPUT.out w5 HB5.out
  have HP := Lib.hid (show PutPost base g f rows i t w (.returned (.tuple #[])) (w5.setCells k at_ (BL (Zn.wide_ t wd))) from ⟨rfl, rows', r1, r2, r3, r5, k, HKM.out, r4⟩)
  clear r1 r2 r3 r4 r5
  go_wp2_with fail
  refine bodyPost_ret (v := .tuple #[]) (by simp [results, Tryz.results49, go_sem]) rfl HP.out
end Go.Proofs.YtelngghecmkipaaGreatDoor
