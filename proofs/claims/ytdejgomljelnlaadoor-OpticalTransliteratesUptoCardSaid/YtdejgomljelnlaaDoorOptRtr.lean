/- Chapter 10: the walk of the reference's letter. -/
import Derived.Test.YtdejgomljelnlaaDoorOptTr
import Derived.Laws.IdiomStrings
namespace Go.Proofs.YtdejgomljelnlaaDoor
open Go.RowKit Go.Lib
namespace Opt
theorem rns_two : ∀ l : List UInt8, pairsOk l = true → rns l = two l
  | [], _ => rfl
  | [_], h => by simp [pairsOk] at h
  | a :: b :: t, h => by
    obtain ⟨g1, g2, g3, g4, g5⟩ := pairs_cons h
    have hd : decodeL (a :: b :: t) = ((a.toNat - 192) * 64 + (b.toNat - 128), 2) := by
      rw [decodeL_N]
      simp only [List.getD_cons_zero, List.getD_cons_succ, List.length_cons]
      unfold decodeN
      rw [if_neg (by omega), if_pos ⟨by omega, by omega, by omega⟩, if_pos (by omega)]
      refine Prod.ext ?_ rfl
      simp only
      omega
    rw [rns_step _ (by simp), hd]
    simp only [List.drop_succ_cons, List.drop_zero]
    rw [rns_two t g5]; rfl
def rowX (i : Nat) : List UInt8 × List UInt8 := rowB.getD i ([], [])
def rowS (i : Nat) : ByteArray := ⟨(rowX i).1.toArray⟩
def rowW (i : Nat) : ByteArray := ⟨(rowX i).2.toArray⟩
theorem rowB_ok : (rowB.all fun x => pairsOk x.1 && decide (x.1.length ≤ 1000)) = true := by kernel_rfl
theorem rowX_ok (i : Nat) : pairsOk (rowX i).1 = true ∧ (rowX i).1.length ≤ 1000 := by
  unfold rowX
  rw [List.getD_eq_getElem?_getD]
  by_cases h : i < rowB.length
  · rw [List.getElem?_eq_getElem h]
    have := List.all_eq_true.1 rowB_ok _ (List.getElem_mem h)
    simp only [Bool.and_eq_true, decide_eq_true_eq] at this
    exact this
  · rw [List.getElem?_eq_none (by omega)]
    exact ⟨rfl, by simp⟩
/-- The reference's rows, in memory. -/
def RowsAt (w : World) : Prop := ∀ i, i < 26 → w.cell? ⟨3, i * 2, none⟩ = some (.string (rowS i)) ∧ w.cell? ⟨3, i * 2 + 1, none⟩ = some (.string (rowW i))
theorem RowsAt.below {w w' : World} (h : RowsAt w) (hb : Below w.heap.size w w') : RowsAt w' := fun i hi => by
  obtain ⟨h1, h2⟩ := h i hi
  exact ⟨(hb.cell (World.block_lt_of_cell? w _ h1)).trans h1, (hb.cell (World.block_lt_of_cell? w _ h2)).trans h2⟩
theorem ltr_plain {r : Nat} (h1 : ¬ (65 ≤ r ∧ r ≤ 90)) (h2 : ¬ (97 ≤ r ∧ r ≤ 122)) : ltr r = ((rowB.find? fun x => (two x.1).contains r).map (·.2)).getD [] := by
  unfold ltr; rw [if_neg h1, if_neg h2]
end Opt
set_option maxRecDepth 100000 in
set_option maxHeartbeats 4000000 in
theorem rletter (r : Nat) (w : World) (hr : r ≤ 1114111) (hrow : Opt.RowsAt w) :
    Calls Tryd.prog 46 #[.int .i32 r] w fun e w' => e = .returned (.string ⟨(Opt.ltr r).toArray⟩) ∧ Below w.heap.size w w' := by
  obtain ⟨S, hS⟩ : ∃ S : ByteArray, ⟨(Opt.ltr r).toArray⟩ = S := ⟨_, rfl⟩
  rw [hS]
  by_cases p1 : 65 ≤ r ∧ r ≤ 90
  · have e1 : Utf8.encode (r : Int) = S := by rw [← hS, Opt.enc_nat r (by omega)]; unfold Opt.ltr; rw [if_pos p1]
    have c1 : (65 : Int) ≤ (r : Int) := by omega
    have c2 : (r : Int) ≤ 90 := by omega
    clear hS p1
    go_enter Tryd.func46, Tryd.ntmps46
    go_wp2_with fail
    go_ret
    exact ⟨rfl, Below.refl _ _⟩
  by_cases p2 : 97 ≤ r ∧ r ≤ 122
  · have e1 : Utf8.encode ((r : Int) - 97 + 65) = S := by
      rw [← hS, show (r : Int) - 97 + 65 = ((r - 32 : Nat) : Int) by omega, Opt.enc_nat _ (by omega)]; unfold Opt.ltr; rw [if_neg p1, if_pos p2]
    have c1 : (65 : Int) ≤ (r : Int) := by omega
    have c2 : ¬ ((r : Int) ≤ 90) := by omega
    have c3 : (97 : Int) ≤ (r : Int) := by omega
    have c4 : (r : Int) ≤ 122 := by omega
    clear hS p1 p2
    go_enter Tryd.func46, Tryd.ntmps46
    go_wp2_with fail
    go_ret
    exact ⟨by first | rfl | rw [e1], Below.refl _ _⟩
  have hf := Opt.ltr_plain p1 p2
  have HF := Lib.hid hf; have HS := Lib.hid hS; have HR := Lib.hid hrow
  have hx : r < 65 ∨ (90 < r ∧ r < 97) ∨ 122 < r := by omega
  clear hf hS p1 p2 hrow
  rcases hx with hx | hx | hx
  all_goals
    first
    | have f1 : ¬ ((65 : Int) ≤ (r : Int)) := by omega
      have f2 : ¬ ((97 : Int) ≤ (r : Int)) := by omega
      clear hx
    | have f1 : (65 : Int) ≤ (r : Int) := by omega
      have f2 : ¬ ((r : Int) ≤ 90) := by omega
      have f3 : ¬ ((97 : Int) ≤ (r : Int)) := by omega
      clear hx
    | have f1 : (65 : Int) ≤ (r : Int) := by omega
      have f2 : ¬ ((r : Int) ≤ 90) := by omega
      have f3 : (97 : Int) ≤ (r : Int) := by omega
      have f4 : ¬ ((r : Int) ≤ 122) := by omega
      clear hx
    go_enter Tryd.func46, Tryd.ntmps46
    go_wp2_with fail
    go_loopw [3, 4, 5] (fun i v k wr => ∃ j : Nat, j ≤ 26 ∧ i = .int .i64 j ∧ (∀ i, i < j → (Opt.two (Opt.rowX i).1).contains r = false) ∧ Below w.heap.size w wr) (fun i _ _ _ => 26 - (intOf i).toNat)
    case atStart => exact ⟨0, by omega, rfl, fun j h => absurd h (by omega), Below.refl _ _⟩
    case round =>
      obtain ⟨j, hj, rfl, hno, hb⟩ := hrel
      have HNO := Lib.hid hno; have HB := Lib.hid hb
      clear hno hb
      by_cases hlt : j < 26
      · obtain ⟨d0, d1⟩ := (HR.out.below HB.out) j hlt
        have hlt' : (j : Int) < 26 := by omega
        have hj0 : (0 : Int) ≤ (j : Int) := by omega
        obtain ⟨g1, g2⟩ := Opt.rowX_ok j
        have hn : Conv.runesFrom (Opt.rowS j) (Opt.rowS j).size 0 #[] = ((Opt.two (Opt.rowX j).1).map fun (r : Nat) => Value.int .i32 (r : Int)).toArray := by
          rw [Opt.runesFrom_eq, ← Opt.rns_two _ g1]
          have e : (Opt.rowS j).data.toList = (Opt.rowX j).1 := rfl
          rw [List.drop_zero, e, show (Opt.rowS j).size = (Opt.rowX j).1.length from str_size _]
          simp [Opt.rns]
        have hlen : (Opt.two (Opt.rowX j).1).length ≤ 1000 := by
          rw [← Opt.rns_two _ g1]
          exact Nat.le_trans (Opt.rns_length _ _ (Nat.le_refl _)) g2
        have HNX := Lib.hid (fun (h : (Opt.two (Opt.rowX j).1).contains r = true) => show Opt.ltr r = (Opt.rowX j).2 by
          have hjl : j < Opt.rowB.length := by
            rcases Nat.lt_or_ge j Opt.rowB.length with h' | h'
            · exact h'
            · exfalso
              have : Opt.rowX j = ([], []) := by unfold Opt.rowX; rw [List.getD_eq_getElem?_getD, List.getElem?_eq_none h']; rfl
              rw [this] at h
              cases h
          have := Opt.find_at (p := fun x : List UInt8 × List UInt8 => (Opt.two x.1).contains r) (d := ([], [])) (L := Opt.rowB) j hjl (fun i hi => HNO.out i hi) h
          rw [HF.out, this]; rfl)
        obtain ⟨C, hC⟩ : ∃ C, Opt.two (Opt.rowX j).1 = C := ⟨_, rfl⟩
        rw [hC] at hn hlen HNX
        have HCC := Lib.hid hC
        obtain ⟨X, hX⟩ : ∃ X, Opt.rowS j = X := ⟨_, rfl⟩
        rw [hX] at d0 hn
        have hcz : (Conv.runesFrom X X.size 0 #[]).size = C.length := by rw [hn]; simp
        have hcv : ∀ w', (convert 9 69 (.string X)).run Tryd.prog w' = .ok (.slice (some ⟨w'.heap.size, 0, none⟩) C.length (grownCap w' C.length 0 21)) (w'.drew.alloc (.cells (Conv.runesFrom X X.size 0 #[] ++ Array.replicate (grownCap w' C.length 0 21 - C.length) (.int .i32 0)) 21)) := fun w' => by
          have := run_runes_of_string (P := Tryd.prog) w' 9 69 21 X Tryd.underlying9 Tryd.underlying69 Tryd.underlying21 (by rw [hcz]; omega)
          rw [hcz] at this
          exact this
        have hcell : ∀ (w' : World) (i : Nat) (h : i < C.length), (w'.drew.alloc (.cells (Conv.runesFrom X X.size 0 #[] ++ Array.replicate (grownCap w' C.length 0 21 - C.length) (.int .i32 0)) 21)).cell? ⟨w'.heap.size, i, none⟩ = some (.int .i32 (C[i] : Int)) := fun w' i h => by
          have := heap_alloc_new w'.drew (.cells (Conv.runesFrom X X.size 0 #[] ++ Array.replicate (grownCap w' C.length 0 21 - C.length) (.int .i32 0)) 21)
          unfold World.cell?
          rw [show w'.heap.size = w'.drew.heap.size from rfl, this]
          simp only []
          rw [hn]
          simp [Array.getElem?_append, h]
        have HCL := Lib.hid hcell
        clear hcell hcz hn hC hX g1 g2
        go_upto_region 9 with fail
        have hcl : ∀ (i : Nat) (h : i < C.length), ((wr.alloc (.cells (Conv.runesFrom X X.size 0 #[] ++ Array.replicate (grownCap wr C.length 0 21 - C.length) (.int .i32 0)) 21)).drew).cell? ⟨wr.heap.size, i, none⟩ = some (.int .i32 (C[i] : Int)) := fun i h => HCL.out wr i h
        have hbl : Below w.heap.size w ((wr.alloc (.cells (Conv.runesFrom X X.size 0 #[] ++ Array.replicate (grownCap wr C.length 0 21 - C.length) (.int .i32 0)) 21)).drew) := (HB.out.alloc HB.out.size _).drew
        have hcap := grownCap_ge wr C.length 0 21
        generalize (wr.alloc (.cells (Conv.runesFrom X X.size 0 #[] ++ Array.replicate (grownCap wr C.length 0 21 - C.length) (.int .i32 0)) 21)).drew = wl at hcl hbl ⊢
        obtain ⟨cap, hcap2⟩ : ∃ cap, grownCap wr C.length 0 21 = cap := ⟨_, rfl⟩
        obtain ⟨g, hg⟩ : ∃ g, wr.heap.size = g := ⟨_, rfl⟩
        rw [hg] at hcl
        rw [hcap2] at hcap
        rw [hg, hcap2]
        have HBL := Lib.hid hbl
        have HCL2 := Lib.hid hcl
        obtain ⟨n, hn⟩ : ∃ n, C.length = n := ⟨_, rfl⟩
        rw [hn] at hlen hcap
        rw [hn]
        have HN := Lib.hid hn
        clear hbl hg hcap2 HCL hcv d0 d1 HB hcl hn
        go_wp2_with fail
        go_loopw [5] (fun k wx => ∃ i : Nat, i ≤ n ∧ k = .int .i64 i ∧ (∀ (q : Nat) (h : q < C.length), q < i → C[q] ≠ r) ∧ Below wl.heap.size wl wx) (fun k _ => n - (intOf k).toNat)
        case atStart => exact ⟨0, by omega, rfl, fun q h h2 => absurd h2 (by omega), Below.refl _ _⟩
        case round =>
          obtain ⟨i, hi, rfl, hqs, hbi⟩ := hrel
          have HQS := Lib.hid hqs; have HBI := Lib.hid hbi
          clear hqs hbi
          have HBX := Lib.hid (HBL.out.trans (HBI.out.mono HBL.out.size))
          by_cases hin : i < n
          · have hic : i < C.length := by rw [HN.out]; exact hin
            have hin' : (i : Int) < (n : Int) := by omega
            have hi0 : (0 : Int) ≤ (i : Int) := by omega
            have e0 : ∀ h : i < C.length, wr.cell? ⟨g, i, none⟩ = some (.int .i32 (C[i] : Int)) := fun h => by
              have := HCL2.out i h
              exact (HBI.out.cell (World.block_lt_of_cell? wl _ this)).trans this
            replace e0 := e0 hic
            obtain ⟨c, hc⟩ : ∃ c, C[i] = c := ⟨_, rfl⟩
            rw [hc] at e0
            have HC := Lib.hid hc
            clear hc
            obtain ⟨d0, d1⟩ := (HR.out.below HBX.out) j hlt
            obtain ⟨Y, hY⟩ : ∃ Y, Opt.rowW j = Y := ⟨_, rfl⟩
            rw [hY] at d1
            have HY := Lib.hid hY
            clear hY d0
            by_cases hcr : c = r
            · have HCR := Lib.hid hcr
              have e1 : ((c : Int) == (r : Int)) = true := by rw [hcr]; simp
              clear hcr
              go_wp2_with fail
              go_ret
              have e2 : Y = S := by
                rw [← HS.out, HNX.out (by
                  rw [List.contains_iff_mem, ← HCR.out, ← HC.out]
                  exact List.getElem_mem hic), ← HY.out]
                rfl
              subst e2
              exact ⟨rfl, HBX.out⟩
            · have HCR := Lib.hid hcr
              have e1 : ((c : Int) == (r : Int)) = false := by simp; omega
              clear hcr
              go_wp2_with fail
              go_roundw
              case rel =>
                refine ⟨i + 1, by omega, by go_num, fun q h h2 => ?_, HBI.out⟩
                by_cases hq : q < i
                · exact HQS.out q h hq
                · obtain rfl : q = i := by omega
                  rw [HC.out]; exact HCR.out
              case measure => simp [intOf]; omega
          · have hin' : ¬ ((i : Int) < (n : Int)) := by omega
            obtain rfl : i = n := by omega
            go_wp2_with fail
            go_roundw
            case rel =>
              refine ⟨j + 1, by omega, by go_num, fun q hq => ?_, HBX.out⟩
              by_cases hqj : q < j
              · exact HNO.out q hqj
              · obtain rfl : q = j := by omega
                rw [HCC.out]
                cases hcn : C.contains r with
                | false => rfl
                | true =>
                  exfalso
                  rw [List.contains_iff_mem] at hcn
                  obtain ⟨k, hk, hkr⟩ := List.mem_iff_getElem.1 hcn
                  exact HQS.out k hk (by rw [← HN.out]; exact hk) hkr
            case measure => simp [intOf]; omega
      · have hlt' : ¬ ((j : Int) < 26) := by omega
        obtain rfl : j = 26 := by omega
        go_wp2_with fail
        go_ret
        have hn : (Opt.rowB.find? fun x => (Opt.two x.1).contains r) = none := Opt.find_none (p := fun x : List UInt8 × List UInt8 => (Opt.two x.1).contains r) (d := ([], [])) (L := Opt.rowB) (fun i hi => HNO.out i (by have : Opt.rowB.length = 25 := rfl; omega))
        have e1 : (⟨#[]⟩ : ByteArray) = S := by rw [← HS.out, HF.out, hn]; rfl
        subst e1
        exact ⟨rfl, HB.out⟩
end Go.Proofs.YtdejgomljelnlaaDoor
