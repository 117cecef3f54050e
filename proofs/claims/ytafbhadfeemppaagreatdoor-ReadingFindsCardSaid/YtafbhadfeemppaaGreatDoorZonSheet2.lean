/- Chapter 11: the walks of digit, value, composed and numbers of a sheet. -/
import Derived.Test.YtafbhadfeemppaaGreatDoorZonParse
import Derived.Test.YtafbhadfeemppaaGreatDoorOptSplitWalk
import Derived.Deep.RegionWith
namespace Go.Proofs.YtafbhadfeemppaaGreatDoor
open Go.RowKit

theorem zdigit (s : ByteArray) (w : World) (hs : s.size ≤ 140737488351232) :
    Calls Tryz.prog 89 #[.string s] w fun e w' => e = .returned (.string (Opt.digS s)) ∧ Below w.heap.size w w' := by
  have HD := Lib.hid (odigit s w hs)
  go_enter Tryz.func89, Tryz.ntmps89
  go_wp2_with fail
  refine HD.out.mono ?_; rintro e w1 ⟨rfl, hb⟩
  go_wp2_with fail
  go_ret
  exact ⟨rfl, hb⟩
theorem zvalue (w : World) (base g f : Nat) (rows : List Ln) (hf : 1 ≤ f ∧ f ≤ 3) (h : SheetAt w base g f rows) (hL : Zn.Shaped f (Ln.txt rows)) (i : Nat) (hi : i < 15) :
    Calls Tryz.prog 58 #[.pointer (some ⟨g, 0, none⟩), .int .i64 i] w fun e w' => e = .returned (.string ⟨(Zn.tr (Zn.fld f (Ln.txt rows) i)).toArray⟩) ∧ Below w.heap.size w w' := by
  have hlen := Zn.fld_len f hf _ hL i hi
  have hle : (Zn.place f i).2.2 ≤ 44 := by
    have := (Zn.place_in f hf i hi).2
    have hwl : Zn.wLine f ≤ 44 := by unfold Zn.wLine; split; · omega
                                     split <;> omega
    omega
  have HG := Lib.hid (zget w base g f rows hf h hL i hi)
  have hT := fun W => Tryz.strings_TrimRight_one ⟨(Zn.fld f (Ln.txt rows) i).toArray⟩ 60 (by decide) W (by rw [str_size]; omega)
  have HT := Lib.hid hT
  clear h hL hT hlen hle
  go_enter Tryz.func58, Tryz.ntmps58
  go_wp2_with fail
  refine HG.out.mono ?_; rintro e w1 ⟨rfl, hb⟩
  go_wp2_with fail
  refine (HT.out _).mono ?_; rintro e w2 ⟨rfl, hw⟩
  rw [hw]
  clear hw
  go_wp2_with fail
  go_ret
  exact ⟨rfl, hb⟩

/-- The lines of a sheet as texts. -/
theorem sheet_line {w : World} {base g f : Nat} {rows : List Ln} (h : SheetAt w base g f rows) (hL : Zn.Shaped f (Ln.txt rows)) : ∃ b c, w.cell? ⟨g, 45, none⟩ = some (.slice (some ⟨b, 0, none⟩) (Zn.nLines f) c) ∧ Zn.nLines f ≤ c ∧ 
    ∀ j, j < Zn.nLines f → ∃ k cp, w.cell? ⟨b, j, none⟩ = some (.slice (some ⟨k, 0, none⟩) (Zn.wLine f) cp) ∧ BytesAt w k ((Ln.txt rows).getD j []) ∧ ((Ln.txt rows).getD j []).length = Zn.wLine f ∧ k < w.heap.size := by
  obtain ⟨v, hs, hl, hgb⟩ := h
  have c45 := hs.last
  rw [Zn.lay_size f] at c45
  have hlen : rows.length = Zn.nLines f := by have := hL.1; unfold Ln.txt at this; rwa [List.length_map] at this
  have hnl : 2 ≤ Zn.nLines f := by unfold Zn.nLines; split <;> omega
  obtain ⟨b, c, rfl, hb1, hb2, hc1, hc2, hline⟩ := hl.line (by omega)
  refine ⟨b, c, by rw [← hlen]; exact c45, by omega, fun j hj => ?_⟩
  obtain ⟨hcell, hbytes, hcap, hblk⟩ := hline j (by omega)
  have hll : rows[j].2.2.length = Zn.wLine f := hL.2 _ (by unfold Ln.txt; exact List.mem_map.2 ⟨_, List.getElem_mem _, rfl⟩)
  have hg : (Ln.txt rows).getD j [] = rows[j].2.2 := by
    unfold Ln.txt
    rw [List.getD_eq_getElem?_getD, List.getElem?_map, List.getElem?_eq_getElem]; rfl
  unfold Ln.val at hcell
  rw [hll] at hcell
  exact ⟨_, _, hcell, by rw [hg]; exact hbytes, by rw [hg]; exact hll, hblk⟩
theorem whole_bytes {w : World} {k : Nat} {l : List UInt8} (h : BytesAt w k l) (n : Nat) (hn : n = l.length) (c : Nat) (src dst e : TypeId) {P : Program}
    (hs : P.underlying src = some (.slice e)) (he : P.underlying e = some (.int .u8)) (hd : P.underlying dst = some .string) :
    (convert src dst (.slice (some ⟨k, 0, none⟩) n c)).run P w = .ok (.string ⟨l.toArray⟩) w := h.conv src dst e n c hn hs he hd

theorem ext_of {S : ByteArray} {A : List UInt8} (h : S = ⟨A.toArray⟩) (i j : Nat) : S.extract i j = ⟨((A.drop i).take (j - i)).toArray⟩ := by
  rw [h]; apply str_eq; rw [Lib.extract_data]
theorem ext_size (S : ByteArray) (i j n : Nat) (h : min j S.size - i = n) : (S.extract i j).size = n := by rw [ByteArray.size_extract]; exact h
set_option maxRecDepth 100000 in
set_option maxHeartbeats 4000000 in
theorem zcomposed (w : World) (base g f : Nat) (rows : List Ln) (hf : 1 ≤ f ∧ f ≤ 3) (h : SheetAt w base g f rows) (hL : Zn.Shaped f (Ln.txt rows)) :
    Calls Tryz.prog 90 #[.pointer (some ⟨g, 0, none⟩)] w fun e w' => e = .returned (.string ⟨(Zn.comp f (Ln.txt rows)).toArray⟩) ∧ Below w.heap.size w w' := by
  obtain ⟨b, c, c45, hc, hline⟩ := sheet_line h hL
  have hnl2 : 2 ≤ Zn.nLines f := by unfold Zn.nLines; split <;> omega
  obtain ⟨k0, cp0, e0, b0, l0, _⟩ := hline 0 (by omega)
  obtain ⟨k1, cp1, e1, b1, l1, _⟩ := hline 1 (by omega)
  obtain ⟨A, hA⟩ : ∃ A, (Ln.txt rows).getD 0 [] = A := ⟨_, rfl⟩
  obtain ⟨B, hB⟩ : ∃ B, (Ln.txt rows).getD 1 [] = B := ⟨_, rfl⟩
  have hcomp : ∃ R, Zn.comp f (Ln.txt rows) = R := ⟨_, rfl⟩
  obtain ⟨R, hR⟩ := hcomp
  rw [hR]
  unfold Zn.comp at hR
  rw [hA] at b0 l0 hR; rw [hB] at b1 l1 hR
  have hcv0 := fun n => whole_bytes (P := Tryz.prog) (b0.drewN n) (Zn.wLine f) l0.symm cp0 59 9 5 Tryz.underlying59 Tryz.underlying5 Tryz.underlying9
  have hcv1 := fun n => whole_bytes (P := Tryz.prog) (b1.drewN n) (Zn.wLine f) l1.symm cp1 59 9 5 Tryz.underlying59 Tryz.underlying5 Tryz.underlying9
  have hcvw := whole_bytes (P := Tryz.prog) b1 (Zn.wLine f) l1.symm cp1 59 9 5 Tryz.underlying59 Tryz.underlying5 Tryz.underlying9
  clear hline h hL b0 b1 hA hB
  by_cases h1 : f = 1
  · subst h1
    rw [if_pos rfl] at hR
    change A.length = 30 at l0
    change B.length = 30 at l1
    change w.cell? ⟨g, 45, none⟩ = some (.slice (some ⟨b, 0, none⟩) 3 c) at c45
    change 3 ≤ c at hc
    change w.cell? ⟨b, 0, none⟩ = some (.slice (some ⟨k0, 0, none⟩) 30 cp0) at e0
    change w.cell? ⟨b, 1, none⟩ = some (.slice (some ⟨k1, 0, none⟩) 30 cp1) at e1
    change ∀ n, (convert 59 9 (.slice (some ⟨k0, 0, none⟩) 30 cp0)).run Tryz.prog (w.drewN n) = _ at hcv0
    change ∀ n, (convert 59 9 (.slice (some ⟨k1, 0, none⟩) 30 cp1)).run Tryz.prog (w.drewN n) = _ at hcv1
    obtain ⟨SA, hSA⟩ : ∃ S : ByteArray, S = ⟨A.toArray⟩ := ⟨_, rfl⟩
    obtain ⟨SB, hSB⟩ : ∃ S : ByteArray, S = ⟨B.toArray⟩ := ⟨_, rfl⟩
    rw [← hSA] at hcv0; rw [← hSB] at hcv1
    clear hcvw
    have zA : SA.size = 30 := by rw [hSA, str_size]; exact l0
    have zB : SB.size = 30 := by rw [hSB, str_size]; exact l1
    have HSA := Lib.hid hSA; have HSB := Lib.hid hSB; have HR := Lib.hid hR
    clear hSA hSB hR l0 l1
    go_enter Tryz.func90, Tryz.ntmps90
    go_wp2_with fail
    go_quiet (fail)
    have hbw := below_drewN (Below.refl w.heap.size w) nq
    generalize w.drewN nq = w1 at hbw
    have HBW := Lib.hid hbw
    clear hcv0 hcv1 hbw
    have p1 : (SA.extract 5 30).size = 25 := ext_size _ _ _ _ (by omega)
    have p2 : (SB.extract 0 7).size = 7 := ext_size _ _ _ _ (by omega)
    have p3 : (SB.extract 8 15).size = 7 := ext_size _ _ _ _ (by omega)
    have p4 : (SB.extract 18 29).size = 11 := ext_size _ _ _ _ (by omega)
    have q1 : (SA.extract 5 30 ++ SB.extract 0 7).size = 32 := by rw [ByteArray.size_append, p1, p2]
    have q2 : (SA.extract 5 30 ++ SB.extract 0 7 ++ SB.extract 8 15).size = 39 := by rw [ByteArray.size_append, q1, p3]
    go_wp2_with fail
    go_quiet (fail)
    go_wp2_with fail
    go_ret
    refine ⟨ret_str ?_, below_drewN HBW.out _⟩
    rw [ext_of HSA.out, ext_of HSB.out, ext_of HSB.out, ext_of HSB.out, str_add, str_add, str_add, ← HR.out, List.drop_zero]
    congr 5
    rw [List.take_of_length_le]
    rw [List.length_drop, ← str_size, ← HSA.out]; omega
  · have hn : Zn.nLines f = 2 := by unfold Zn.nLines; rw [if_neg h1]
    have hN : Zn.wLine f = 36 ∨ Zn.wLine f = 44 := by unfold Zn.wLine; split; · omega
                                                      split <;> omega
    rw [if_neg h1] at hR
    rw [hn] at c45 hc
    generalize Zn.wLine f = N at *
    obtain ⟨SB, hSB⟩ : ∃ S : ByteArray, S = ⟨B.toArray⟩ := ⟨_, rfl⟩
    rw [← hSB] at hcvw
    have zB : SB.size = N := by rw [hSB, str_size]; exact l1
    have HSB := Lib.hid hSB; have HR := Lib.hid hR
    have hN2 : 36 ≤ N := by omega
    have hN3 : N ≤ 44 := by omega
    clear hSB hR l0 l1 hcv0 hcv1 hn h1 hN
    go_enter Tryz.func90, Tryz.ntmps90
    go_wp2_with fail
    clear hcvw
    have p1 : (SB.extract 0 10).size = 10 := ext_size _ _ _ _ (by omega)
    have p2 : (SB.extract 13 20).size = 7 := ext_size _ _ _ _ (by omega)
    have p3 : (SB.extract 21 (N - 1)).size = N - 22 := ext_size _ _ _ _ (by omega)
    have q1 : (SB.extract 0 10 ++ SB.extract 13 20).size = 17 := by rw [ByteArray.size_append, p1, p2]
    go_quiet (fail)
    go_wp2_with fail
    go_ret
    refine ⟨ret_str ?_, below_drewN (Below.refl _ _) _⟩
    rw [ext_of HSB.out, ext_of HSB.out, ext_of HSB.out, str_add, str_add, ← HR.out, List.drop_zero, show N - 1 - 21 = N - 22 by omega]
end Go.Proofs.YtafbhadfeemppaaGreatDoor
