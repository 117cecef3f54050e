/- Chapter 12: several texts in one (RdOpen, RdLaw3). -/
import Derived.Test.YtafbhadfeemppaaGreatDoorRdGF
import Derived.Test.YtafbhadfeemppaaGreatDoorRows
import Derived.Deep.Slices
import Derived.SliceStrings
import Derived.ProofKit
import Derived.OpenShut
import Derived.Test.YtafbhadfeemppaaGreatDoorRdGN
import Derived.Test.YtafbhadfeemppaaGreatDoorRdGQ
import Derived.Test.YtafbhadfeemppaaGreatDoorRdGA
namespace Go.Proofs.YtafbhadfeemppaaGreatDoor
open Go.RowKit Go.ChangeShapes Go.WideShapes Go.Deep

/-- How many letters and texts a row holds. -/
def rB : List ByteArray → Nat
  | [] => 0
  | s :: r => (s.size + 1) + rB r
def gB : List (List ByteArray) → Nat
  | [] => 0
  | r :: g => (rB r + 1) + gB g
theorem rB_mem : ∀ (R : List ByteArray) {s : ByteArray}, s ∈ R → s.size ≤ rB R
  | [], _, h => by simp at h
  | x :: r, s, h => by
    simp only [rB]
    rcases List.mem_cons.1 h with rfl | h
    · omega
    · have := rB_mem r h; omega
theorem rB_len : ∀ R : List ByteArray, R.length ≤ rB R
  | [] => Nat.zero_le _
  | x :: r => by have := rB_len r; simp only [rB, List.length_cons]; omega
theorem gB_mem : ∀ (G : List (List ByteArray)) {R : List ByteArray}, R ∈ G → rB R ≤ gB G
  | [], _, h => by simp at h
  | x :: r, s, h => by
    simp only [gB]
    rcases List.mem_cons.1 h with rfl | h
    · omega
    · have := gB_mem r h; omega
theorem gB_len : ∀ G : List (List ByteArray), G.length ≤ gB G
  | [] => Nat.zero_le _
  | x :: r => by have := gB_len r; simp only [gB, List.length_cons]; omega
theorem gB_flat : ∀ G : List (List ByteArray), G.flatten.length ≤ gB G
  | [] => Nat.zero_le _
  | x :: r => by
    have := gB_flat r; have := rB_len x
    simp only [gB, List.flatten_cons, List.length_append]; omega
theorem rB_strs {H : Type} : ∀ R : List ByteArray, rB R ≤ Rows.uptoBulkAll (strs (H := H) R)
  | [] => Nat.zero_le _
  | x :: r => by
    have := rB_strs (H := H) r
    simp only [strs, List.map_cons, Rows.uptoBulkAll, Rows.uptoBulk, rB] at *
    rw [Opt.size_len]; omega
theorem gB_range {H : Type} (D : Nat → DataW H) (ts : List (List ByteArray)) : ∀ n : Nat, ts.length = n → (∀ i (h : i < ts.length), rB ts[i] + 1 ≤ Rows.uptoBulk (D i)) → gB ts ≤ Rows.uptoBulkAll ((List.range n).map D) := by
  induction ts generalizing D with
  | nil => intro n hn _; simp [gB]
  | cons t r ih =>
    intro n hn h
    obtain ⟨m, rfl⟩ : ∃ m, n = m + 1 := ⟨n - 1, by simp at hn; omega⟩
    rw [List.range_succ_eq_map, List.map_cons, List.map_map]
    have h0 := h 0 (by simp)
    have h1 := ih (D ∘ Nat.succ) m (by simpa using hn) (fun i hi => h (i + 1) (by simpa using hi))
    simp only [gB, Rows.uptoBulkAll]
    simp only [List.getElem_cons_zero] at h0
    exact Nat.add_le_add h0 h1
theorem cellsRow12 : Tryz.prog.cellsOf 29 = 1 := by kernel_rfl
theorem cellsStr12 : Tryz.prog.cellsOf 9 = 1 := by kernel_rfl
/-- A row that comes in. -/
theorem open_row12 {H : Type} {enc : TypeId × Value → H} {w : World} {fuel : Nat} {v : Value} {d : DataW H} {p : List MemPlace}
    (h : DataW.trod enc Tryz.prog w 0 (fun _ => true) true fuel 29 [v] = some (d, p)) : ∃ x : List ByteArray × (Option Addr × Nat), v = .slice x.2.1 x.1.length x.2.2 ∧ TextsAt w x.2.1 x.1 ∧ rB x.1 + 1 ≤ Rows.uptoBulk d := by
  rcases open_strings Tryz.underlying29 Tryz.underlying9 cellsStr12 h with ⟨hcs, hd⟩ | ⟨x, l, c, ss, hcs, _, hl, hm, hz, hx, hcell, hwz⟩
  · simp at hcs
    subst hcs
    injection hd with hd _
    subst hd
    exact ⟨([], none, 0), rfl, ⟨by simp, .inl rfl⟩, by simp [rB, Rows.uptoBulk]⟩
  · simp at hcs
    subst hcs
    injection hx with hx1 hx2
    subst hx1
    have hz' : ss.length = c := by simpa using hz
    have hlt : (ss.take l).length = l := by rw [List.length_take]; omega
    refine ⟨(ss.take l, some x, c), by show _ = Value.slice _ (ss.take l).length _; rw [hlt], ⟨by simp, ?_⟩, ?_⟩
    · rcases Nat.eq_zero_or_pos l with h0 | h0
      · left; show (ss.take l).length = 0; rw [hlt]; exact h0
      · obtain ⟨b, off, spot⟩ := x
        have hspot : spot = none := by simpa [Addr.add] using World.cell?_spot (hcell 0 (by omega))
        subst hspot
        refine .inr ⟨b, off, rfl, fun i u hu => ?_⟩
        rw [List.getElem?_map, List.getElem?_take] at hu
        split at hu
        · have h2 := hcell i (by omega)
          rw [Go.WideShapes.add_plain] at h2
          rw [h2]
          rw [List.getElem?_eq_getElem (by omega)] at hu
          simp only [Option.map_some] at hu
          rw [List.getD_eq_getElem?_getD, List.getElem?_eq_getElem (by omega)]
          exact hu
        · cases hu
    · have := rB_strs (H := H) (ss.take l)
      simp only [Rows.uptoBulk]
      omega
set_option maxRecDepth 100000 in
/-- A reading that comes in. -/
theorem open_grid {H : Type} {enc : TypeId × Value → H} {w : World} {b0 : Nat} {v : Value} {d : DataW H} {p : List MemPlace} {r : Reach}
    (hv : Value.okWide Tryz.prog w r b0 31 v) (hd : DataW.Trod enc Tryz.prog w 0 (fun _ => true) true 31 v d p) :
    ∃ (A : Option Addr) (G : List (List ByteArray)) (c : Nat), v = .slice A G.length c ∧ GridAt w A G ∧ gB G ≤ Rows.uptoBulk d := by
  obtain ⟨a0, len, cap, rfl⟩ := okWide_slice Tryz.underlying31 hv
  obtain ⟨fuel, hf⟩ := hd
  rcases open_slice1 Tryz.underlying31 cellsRow12 hf with ⟨hcs, _⟩ | ⟨a, l, c, m, n, V, D, Pl, hcs, _, hl, hm, hmm, hx, hi⟩
  · simp [Value.cells] at hcs
    obtain ⟨rfl, rfl, rfl⟩ := hcs
    exact ⟨none, [], 0, rfl, .inl rfl, Nat.zero_le _⟩
  · simp [Value.cells] at hcs
    obtain ⟨rfl, rfl, rfl⟩ := hcs
    simp only [if_true] at hmm
    subst hmm
    injection hx with hx1 hx2
    subst hx1
    have hK : ∀ i, i < len → ∃ x : List ByteArray × (Option Addr × Nat), V i = .slice x.2.1 x.1.length x.2.2 ∧ TextsAt w x.2.1 x.1 ∧ rB x.1 + 1 ≤ Rows.uptoBulk (D i) := fun i h => open_row12 (hi i (by omega)).2
    have : Inhabited (List ByteArray × (Option Addr × Nat)) := ⟨([], none, 0)⟩
    obtain ⟨F, hF⟩ := choose_lt hK
    have hlen : ((List.range len).map fun i => (F i).1).length = len := by simp
    refine ⟨some a, (List.range len).map fun i => (F i).1, _, by rw [hlen], ?_, ?_⟩
    · rcases Nat.eq_zero_or_pos len with h0 | h0
      · exact .inl (by rw [hlen]; exact h0)
      · have hA : ∃ b off, a = ⟨b, off, none⟩ := by
          have c0 := (hi 0 (by omega)).1
          obtain ⟨b, off, spot⟩ := a
          have hspot : spot = none := by simpa [Addr.add] using World.cell?_spot c0
          subst hspot; exact ⟨b, off, rfl⟩
        obtain ⟨b, off, rfl⟩ := hA
        refine .inr ⟨b, off, rfl, fun i hi' => ?_⟩
        rw [hlen] at hi'
        obtain ⟨h1, h2, _⟩ := hF i hi'
        have c0 := (hi i (by omega)).1
        rw [Go.WideShapes.add_plain, h1] at c0
        simp only [List.getElem_map, List.getElem_range]
        exact ⟨_, _, c0, h2⟩
    · have hb := gB_range D ((List.range len).map fun i => (F i).1) len hlen (fun i h => by rw [hlen] at h; simpa using (hF i h).2.2)
      simp only [Rows.uptoBulk]
      omega
end Go.Proofs.YtafbhadfeemppaaGreatDoor

namespace Go.Proofs.YtafbhadfeemppaaGreatDoor
open Go.RowKit Go.ChangeShapes Go.WideShapes

noncomputable def rdV (G : List (List ByteArray)) : List (List ByteArray) := if cntE G = 0 then rdK G else []
theorem RdPost.one {G : List (List ByteArray)} {w w' : World} {e : Ending} (h : RdPost G w e w') : ∃ A c, e = .returned (.tuple #[.slice A (rdV G).length c, .int .i64 (cntE G)]) ∧ GridAt w' A (rdV G) ∧ Below w.heap.size w w' := by
  by_cases h0 : cntE G = 0
  · obtain ⟨A, c, rfl, hg, _⟩ := h.2.1 h0
    have hv : rdV G = rdK G := if_pos h0
    exact ⟨A, c, by rw [hv, h0], by rw [hv]; exact hg, h.2.2⟩
  · have hv : rdV G = [] := if_neg h0
    exact ⟨none, 0, by rw [hv]; exact h.1 h0, by rw [hv]; exact .inl rfl, h.2.2⟩
theorem rdV_len (G : List (List ByteArray)) : (rdV G).length ≤ 4096 := by
  unfold rdV
  split
  · rename_i h; exact rdK_le h
  · exact Nat.zero_le _
theorem rdV_row {G : List (List ByteArray)} {R : List ByteArray} (h : R ∈ rdV G) : R.length = G.length := by
  unfold rdV at h
  split at h
  · exact KS_len h
  · cases h
theorem onlV_len (G : List (List ByteArray)) (h : G.length ≤ 1099511627776) : (onlV G).length ≤ 1099511627776 := by
  unfold onlV
  split
  · cases hK : rdK G with
    | nil => exact Nat.zero_le _
    | cons a r =>
      have : a ∈ rdK G := by rw [hK]; simp
      rw [show (a :: r).headD [] = a from rfl, KS_len this]
      exact h
  · exact Nat.zero_le _
theorem bulk_one12 {H : Type} {d : DataW H} (h : Rows.uptoSmall H ([d] ++ []) = true) : Rows.uptoBulk d ≤ 1048576 := by
  have := of_decide_eq_true h
  simp only [List.append_nil, Rows.uptoBulkAll] at this; omega
set_option maxRecDepth 100000 in
set_option maxHeartbeats 4000000 in
theorem any_all (G : List (List ByteArray)) (A : Option Addr) (c : Nat) (w : World) (hG : GridAt w A G) (hb : gB G ≤ 1048576) (hd : Dat.At w) (hx : Opt.Lax w) :
    Calls Tryz.prog 5 #[.slice A G.length c] w fun e w' => e = .returned (.bool true) ∧ Below w.heap.size w w' := by
  have g1 : G.length ≤ 4194304 := Nat.le_trans (gB_len G) (by omega)
  have g2 : G.flatten.length ≤ 4194304 := Nat.le_trans (gB_flat G) (by omega)
  have g3 : ∀ r ∈ G, r.length ≤ 1099511627776 := fun r hr => Nat.le_trans (rB_len r) (Nat.le_trans (gB_mem G hr) (by omega))
  have g4 : ∀ r ∈ G, ∀ s ∈ r, s.size ≤ 140737488351232 := fun r hr s hs => Nat.le_trans (rB_mem r hs) (Nat.le_trans (gB_mem G hr) (by omega))
  have hl : ∀ W, Below w.heap.size w W → GridAt W A G ∧ Dat.At W ∧ Opt.Lax W := fun W h => ⟨hG.later h, hd.below h, hx.below h⟩
  have HAW := Lib.hid (fun W (h : Below w.heap.size w W) => oawake W (hl W h).2.1 (hl W h).2.2)
  have HCN := Lib.hid (fun W (h : Below w.heap.size w W) => rcount G A c W (hl W h).1 (by omega) g3 g4)
  have HOR := Lib.hid (fun W (h : Below w.heap.size w W) => (oreadings G A c W (hl W h).1 g1 g2 g4 (hl W h).2.1 (hl W h).2.2).mono fun _ _ => RdPost.one)
  have HRR := Lib.hid (fun W (h : Below w.heap.size w W) => (rreadings G A c W (hl W h).1 (by omega) g3 g4).mono fun _ _ => RdPost.one)
  have HOO := Lib.hid (fun W (h : Below w.heap.size w W) => oonly G A c W (hl W h).1 g1 g2 g4 (hl W h).2.1 (hl W h).2.2)
  have HRO := Lib.hid (fun W (h : Below w.heap.size w W) => ronly G A c W (hl W h).1 (by omega) g3 g4)
  unfold OnlyPost at HOO HRO
  have hkl := rdV_len G
  have HKR := Lib.hid (fun R (h : R ∈ rdV G) => show R.length ≤ 1099511627776 by rw [rdV_row h]; omega)
  have HOL := Lib.hid (onlV_len G (by omega))
  obtain ⟨E, hE⟩ : ∃ E, cntE G = E := ⟨_, rfl⟩
  obtain ⟨CN, hCN⟩ : ∃ CN, cntN G = CN := ⟨_, rfl⟩
  obtain ⟨K, hK⟩ : ∃ K, rdV G = K := ⟨_, rfl⟩
  obtain ⟨O, hO⟩ : ∃ O, onlV G = O := ⟨_, rfl⟩
  obtain ⟨F, hF⟩ : ∃ F, onlE G = F := ⟨_, rfl⟩
  simp only [hE, hCN, hK, hO, hF] at HCN HOR HRR HOO HRO HKR HOL hkl
  clear hl g2 g3 g4 hd hx hG hE hCN hK hO hF hb
  have HKL := Lib.hid hkl
  clear hkl
  go_enter Tryz.func5, Tryz.ntmps5
  go_wp2_with fail
  refine (HCN.out _ (Below.refl _ _)).mono ?_; rintro e w1 ⟨rfl, hb1⟩
  have HB1 := Lib.hid hb1
  clear hb1
  by_cases hbig : E = 0 ∧ 64 < CN
  · obtain ⟨rfl, h64⟩ := hbig
    go_wp2_with fail
    refine (HAW.out _ HB1.out).mono ?_; rintro e w2 ⟨rfl, hb2⟩
    have HB2 := Lib.hid (HB1.out.trans (hb2.mono HB1.out.size))
    clear hb2
    go_wp2_with fail
    go_ret
    exact ⟨rfl, HB2.out⟩
  · by_cases hE0 : E = 0
    · subst hE0
      have h64 : ¬ (64 < CN) := fun h => hbig ⟨rfl, h⟩
      clear hbig
      go_upto_region 4 with fail
      clear h64
      go_wp2_with fail
      refine (HOR.out _ HB1.out).mono ?_; rintro e w2 ⟨A2, c2, rfl, hg2, hb2⟩
      have HB2 := Lib.hid (HB1.out.trans (hb2.mono HB1.out.size)); have HG2 := Lib.hid hg2
      clear hb2 hg2
      go_wp2_with fail
      refine (HRR.out _ HB2.out).mono ?_; rintro e w3 ⟨A3, c3, rfl, hg3, hb3⟩
      have HB3 := Lib.hid (HB2.out.trans (hb3.mono HB2.out.size)); have HG3 := Lib.hid (And.intro (HG2.out.later hb3) hg3)
      clear hb3 hg3
      go_wp2_with fail
      refine (HOO.out _ HB3.out).mono ?_; rintro e w4 ⟨A4, c4, rfl, ht4, hb4⟩
      have HB4 := Lib.hid (HB3.out.trans (hb4.mono HB3.out.size)); have HG4 := Lib.hid (And.intro (HG3.out.1.later hb4) (And.intro (HG3.out.2.later hb4) ht4))
      clear hb4 ht4
      go_wp2_with fail
      refine (HRO.out _ HB4.out).mono ?_; rintro e w5 ⟨A5, c5, rfl, ht5, hb5⟩
      have HB5 := Lib.hid (HB4.out.trans (hb5.mono HB4.out.size)); have HG5 := Lib.hid (And.intro (HG4.out.1.later hb5) (And.intro (HG4.out.2.1.later hb5) (And.intro (HG4.out.2.2.later hb5) ht5)))
      clear hb5 ht5
      go_wp2_with fail
      refine (HAW.out _ HB5.out).mono ?_; rintro e w6 ⟨rfl, hb6⟩
      have HB6 := Lib.hid (HB5.out.trans (hb6.mono HB5.out.size)); have HG6 := Lib.hid (And.intro (HG5.out.1.later hb6) (And.intro (HG5.out.2.1.later hb6) (And.intro (HG5.out.2.2.1.later hb6) (HG5.out.2.2.2.later hb6))))
      clear hb6
      go_wp2_with fail
      refine (rsame12 w6 A2 A3 K c2 c3 HG6.out.1 HG6.out.2.1 (Nat.le_trans HKL.out (by decide)) HKR.out).mono ?_; rintro e w7 ⟨rfl, hb7⟩
      have HB7 := Lib.hid (HB6.out.trans (hb7.mono HB6.out.size)); have HG7 := Lib.hid (And.intro (HG6.out.2.2.1.later hb7) (HG6.out.2.2.2.later hb7))
      clear hb7
      go_wp2_with fail
      refine (rsame_same w7 A4 A5 O c4 c5 HG7.out.1 HG7.out.2 HOL.out).mono ?_; rintro e w8 ⟨rfl, hb8⟩
      have HB8 := Lib.hid (HB7.out.trans (hb8.mono HB7.out.size))
      clear hb8
      go_wp2_with fail
      go_ret
      exact ⟨rfl, HB8.out⟩
    · clear hbig
      go_wp2_with fail
      refine (HOR.out _ HB1.out).mono ?_; rintro e w2 ⟨A2, c2, rfl, hg2, hb2⟩
      have HB2 := Lib.hid (HB1.out.trans (hb2.mono HB1.out.size)); have HG2 := Lib.hid hg2
      clear hb2 hg2
      go_wp2_with fail
      refine (HRR.out _ HB2.out).mono ?_; rintro e w3 ⟨A3, c3, rfl, hg3, hb3⟩
      have HB3 := Lib.hid (HB2.out.trans (hb3.mono HB2.out.size)); have HG3 := Lib.hid (And.intro (HG2.out.later hb3) hg3)
      clear hb3 hg3
      go_wp2_with fail
      refine (HOO.out _ HB3.out).mono ?_; rintro e w4 ⟨A4, c4, rfl, ht4, hb4⟩
      have HB4 := Lib.hid (HB3.out.trans (hb4.mono HB3.out.size)); have HG4 := Lib.hid (And.intro (HG3.out.1.later hb4) (And.intro (HG3.out.2.later hb4) ht4))
      clear hb4 ht4
      go_wp2_with fail
      refine (HRO.out _ HB4.out).mono ?_; rintro e w5 ⟨A5, c5, rfl, ht5, hb5⟩
      have HB5 := Lib.hid (HB4.out.trans (hb5.mono HB4.out.size)); have HG5 := Lib.hid (And.intro (HG4.out.1.later hb5) (And.intro (HG4.out.2.1.later hb5) (And.intro (HG4.out.2.2.later hb5) ht5)))
      clear hb5 ht5
      go_wp2_with fail
      refine (HAW.out _ HB5.out).mono ?_; rintro e w6 ⟨rfl, hb6⟩
      have HB6 := Lib.hid (HB5.out.trans (hb6.mono HB5.out.size)); have HG6 := Lib.hid (And.intro (HG5.out.1.later hb6) (And.intro (HG5.out.2.1.later hb6) (And.intro (HG5.out.2.2.1.later hb6) (HG5.out.2.2.2.later hb6))))
      clear hb6
      go_wp2_with fail
      refine (rsame12 w6 A2 A3 K c2 c3 HG6.out.1 HG6.out.2.1 (Nat.le_trans HKL.out (by decide)) HKR.out).mono ?_; rintro e w7 ⟨rfl, hb7⟩
      have HB7 := Lib.hid (HB6.out.trans (hb7.mono HB6.out.size)); have HG7 := Lib.hid (And.intro (HG6.out.2.2.1.later hb7) (HG6.out.2.2.2.later hb7))
      clear hb7
      go_wp2_with fail
      refine (rsame_same w7 A4 A5 O c4 c5 HG7.out.1 HG7.out.2 HOL.out).mono ?_; rintro e w8 ⟨rfl, hb8⟩
      have HB8 := Lib.hid (HB7.out.trans (hb8.mono HB7.out.size))
      clear hb8
      go_wp2_with fail
      go_ret
      exact ⟨rfl, HB8.out⟩
set_option maxRecDepth 100000 in
theorem walkReadingAny {H : Type} {enc : TypeId × Value → H} {X : Prop} (w : World) (v : Value) (d : DataW H) {b0 : Nat} {p : List MemPlace} {r : Reach} (hv : Value.okWide Tryz.prog w r b0 31 v) (hd : DataW.Trod enc Tryz.prog w 0 (fun _ => true) true 31 v d p)
    (_hsz : X) (hcond : Rows.uptoSmall H ([d] ++ []) = true) (hL : laidMetH Tryz.prog Rows.readingAnyUptoRow.laid w) (hsh : w.ShapedOpen Tryz.prog) :
    Calls Tryz.prog 5 #[v] w fun e w' => e = .returned (.bool true) ∧ Below w.heap.size w w' := by
  obtain ⟨A, G, c, rfl, hG, hb⟩ := open_grid hv hd
  exact any_all G A c w hG (Nat.le_trans hb (bulk_one12 hcond)) (laid_dat (by kernel_rfl) hL) (Opt.lax_of hsh)
end Go.Proofs.YtafbhadfeemppaaGreatDoor
