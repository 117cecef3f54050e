/- Several texts in one: WebH, WebI, WebTi. -/
import Derived.Test.YtihbmgkbipeakaaGreatWebG13
import Derived.Deep.LoopGhost
import Derived.Test.YtihbmgkbipeakaaGreatWebG0
import Derived.Deep.RegionHeld
import Derived.Test.YtihbmgkbipeakaaGreatWebG12
namespace Go.Proofs.YtihbmgkbipeakaaGreat
open Go.RowKit Go.Maps

namespace Wb
variable {W : List Stp} {f i : Nat} {m : Bool}
theorem rnd_end (h : W.length ≤ i) : rnd f i m W = (W, m) := by
  cases f with
  | zero => rfl
  | succ f => simp only [rnd]; rw [if_neg (by omega)]
theorem rnd_skip (h : i < W.length) (hp : W[i].part = false) : rnd (f + 1) i m W = rnd f (i + 1) m W := by
  simp only [rnd]
  rw [if_pos h, if_neg (by rw [part_at h, hp]; simp)]
theorem rnd_step (h : i < W.length) (hp : W[i].part = true) : rnd (f + 1) i m W = rnd f (i + 1) (m || (apart W i).2) (apart W i).1 := by
  simp only [rnd]
  rw [if_pos h, if_pos (by rw [part_at h, hp])]
theorem start_take (K : List T) (j : Nat) (h : j < K.length) : start (K.take (j + 1)) = (take (start (K.take j)) K[j] 1 []).1 := by
  rw [List.take_succ_eq_append_getElem h]
  unfold start
  rw [List.foldl_append]; rfl
theorem start_inv {U : List T} {K : List T} (h : ∀ t ∈ K, t ∈ U) (j : Nat) : Inv U (start (K.take j)) :=
  (start_facts ⟨#[]⟩ (K.take j) [] (fun t ht => h t (List.mem_of_mem_take ht)) (Inv.nil U)).1
theorem run_more {N : Nat} {W' : List Stp} (h : rnd N 0 false W = (W', true)) : run N (f + 1) W = run N f W' := by
  simp only [run, h]; rfl
theorem run_done {N : Nat} {W' : List Stp} (h : rnd N 0 false W = (W', false)) : run N (f + 1) W = W' := by
  simp only [run, h]; rfl
/-- All that is found. -/
def fill (N : Nat) (K : List T) : List Stp := run N (N + 1) (start K)
end Wb
theorem own_nil (w : World) (B : Nat) (e : TypeId) (size : Nat) : w.ownsRow B e size (.slice none 0 0) 0 [] := ⟨by simp, .inl ⟨rfl, rfl⟩⟩
theorem WebAt.empty (w : World) (B : Nat) (hB : B ≤ w.heap.size) : WebAt B ((w.alloc (.map #[] 0)).alloc (.cells #[.slice none 0 0, .map (some w.heap.size), .slice none 0 0] 116)) (w.heap.size + 1) w.heap.size (.slice none 0 0) (.slice none 0 0) [] := by
  have hb := below_alloc1 (w.alloc (.map #[] 0)) (.cells #[.slice none 0 0, .map (some w.heap.size), .slice none 0 0] 116)
  refine ⟨⟨[], ⟨rfl, fun i h => absurd h (Nat.not_lt_zero _)⟩, own_nil _ _ _ _⟩, own_nil _ _ _ _, ⟨.map [], 0, ?_, Nat.le_refl _, MapIs.nil⟩, ?_, ⟨by omega, hB⟩, by simp⟩
  · exact (World.ownsMap_made w Tryz.prog 9 _).kept (row := none) (grownBy_of_below none hb) (by simp)
  · have := heap_alloc_new (w.alloc (.map #[] 0)) (.cells #[.slice none 0 0, .map (some w.heap.size), .slice none 0 0] 116)
    rw [size_alloc1] at this
    exact this

set_option maxRecDepth 100000 in
set_option maxHeartbeats 8000000 in
theorem ofill {U : List T} (hU : Uni U) (hbU : ∀ t ∈ U, t.bulk ≤ 1048576) (L : List T) (A : Option Addr) (cap : Nat) (w : World) (h : KnownAt w A cap L) (hb : ∀ t ∈ L, t.bulk ≤ 1048576) (hK : ∀ t ∈ cnt L, t ∈ U) :
    Calls Tryz.prog 51 #[.slice A L.length cap] w fun e w' => ∃ g M vs vp, e = .returned (.pointer (some ⟨g, 0, none⟩)) ∧ WebAt w.heap.size w' g M vs vp (Wb.fill U.length (cnt L)) ∧ Below w.heap.size w w' := by
  obtain ⟨N, hN⟩ : ∃ N, U.length = N := ⟨_, rfl⟩
  have HL := Lib.hid (fun (W : List Stp) (hI : Inv U W) => show W.length ≤ N by rw [← hN]; exact hI.len)
  rw [hN]
  have hNs : N ≤ 1048576 := by rw [← hN]; exact hU.size
  obtain ⟨R, hR⟩ : ∃ R, Wb.fill N (cnt L) = R := ⟨_, rfl⟩
  rw [hR]
  have HR := Lib.hid hR
  have HTK := Lib.hid (fun (t : T) (ht : t ∈ U) v' W' how frm F fc g M Wj vs' vp' (hI' : Inv U Wj) hW hT' hF => otake (W := Wj) (g := g) (M := M) (B := w.heap.size) (vs := vs') (vp := vp') t v' W' how frm F fc hW hT' (hbU t ht) hF (hI'.room hU ht))
  have HAP := Lib.hid (fun i w' g M vs vp W hi hI hW => oapart (B := w.heap.size) (g := g) (M := M) (vs := vs) (vp := vp) (W := W) hU hbU i w' hi hI hW)
  have HAI := Lib.hid (fun (i : Nat) (W : List Stp) (hi : i < W.length) (hI : Inv U W) => (Wb.apart_inv hU hI hi).1)
  have hmk : Sem.run Tryz.prog (Instr.makeMap 113 none) w = .ok (.map (some w.heap.size)) (w.alloc (.map #[] 0)) := rfl
  have hw := (below_alloc1 w (.map #[] 0)).trans ((below_alloc1 (w.alloc (.map #[] 0)) (.cells #[.slice none 0 0, .map (some w.heap.size), .slice none 0 0] 116)).mono (by rw [size_alloc1]; omega))
  have HW0 := Lib.hid (WebAt.empty w w.heap.size (Nat.le_refl _))
  have HC := Lib.hid (ocounted L A cap _ (h.later hw) hb)
  have HB1 := Lib.hid hw
  have HKU := Lib.hid hK
  clear h hb hK hw hR hN
  go_enter Tryz.func51, Tryz.ntmps51
  go_upto_region 2 with fail
  clear hmk
  generalize hw1 : (w.alloc (.map #[] 0)).alloc (.cells #[.slice none 0 0, .map (some w.heap.size), .slice none 0 0] 116) = w1 at HW0 HC HB1 ⊢
  have hsz1 : w1.heap.size = w.heap.size + 1 + 1 := by rw [← hw1, size_alloc1, size_alloc1]
  have HSZ := Lib.hid hsz1
  have hgp : (w.alloc (.map #[] 0)).heap.size = w.heap.size + 1 := size_alloc1 _ _
  clear hw1 hsz1
  obtain ⟨g, hg⟩ : ∃ g, w.heap.size + 1 = g := ⟨_, rfl⟩
  rw [hg] at HW0 ⊢
  clear hg hgp
  go_wp2_with fail
  refine HC.out.mono ?_; rintro e w2 ⟨v', rfl, hrow, hb2⟩
  obtain ⟨A5, c5, rfl, _, hc5⟩ := hrow.shape
  have ht2 : TermIn (nr g w.heap.size (.slice none 0 0) (.slice none 0 0)) w2 (.agg #[.int .i64 0, .string ⟨#[]⟩, .slice A5 (cnt L).length c5]) (.mk 0 ⟨#[]⟩ (cnt L)) :=
    (hrow.term 0 ⟨#[]⟩ (by omega) (Nat.zero_le _)).keep (fun b hb hl => ⟨nr_new HW0.out (of_decide_eq_true hb), rfl⟩)
  have HW2 := Lib.hid (HW0.out.later hb2); have HT2 := Lib.hid ht2; have HB2 := Lib.hid (HB1.out.trans (hb2.mono HB1.out.size))
  clear hrow hb2 ht2 hc5
  have hKl : (cnt L).length ≤ 64 := Nat.le_trans (List.length_filter_le _ _) (by rw [List.length_take]; omega)
  generalize cnt L = K at HT2 HKU HR hKl ⊢
  obtain ⟨n, hn⟩ : ∃ n, K.length = n := ⟨_, rfl⟩
  have HN := Lib.hid hn
  rw [hn] at HT2 hKl ⊢
  clear hn
  go_upto_region 3 with fail
  go_loopw [14] (fun s14 wr => ∃ (j : Nat) (vsj vpj : Value), j ≤ n ∧ s14 = .int .i64 j ∧ WebAt w.heap.size wr g w.heap.size vsj vpj (Wb.start (K.take j)) ∧ TermIn (nr g w.heap.size vsj vpj) wr (.agg #[.int .i64 0, .string ⟨#[]⟩, .slice A5 n c5]) (.mk 0 ⟨#[]⟩ K) ∧ Below w.heap.size w wr) (fun i _ => n - (intOf i).toNat)
  case atStart => exact ⟨0, _, _, Nat.zero_le _, rfl, by rw [List.take_zero]; exact HW2.out, HT2.out, HB2.out⟩
  case round =>
    obtain ⟨j, vsj, vpj, hj, rfl, hwj, htj, hbj⟩ := hrel
    by_cases hlt : j < n
    · have hjK : j < K.length := by rw [HN.out]; exact hlt
      obtain ⟨b, off, A1, c1, rfl, hS, d0, d1, d2, hkj⟩ := htj.kid (i := j) hjK
      have HKJ := Lib.hid (show (T.mk 0 ⟨#[]⟩ K).kid j = K[j]'(hjK) from T.kid_at (t := .mk 0 ⟨#[]⟩ K) hjK)
      generalize (T.mk 0 ⟨#[]⟩ K).kid j = t at d0 d1 d2 hkj HKJ
      have HTU := Lib.hid (show t ∈ U by rw [HKJ.out]; exact HKU.out _ (List.getElem_mem hjK))
      have HST := Lib.hid (show Wb.start (K.take (j + 1)) = (Wb.take (Wb.start (K.take j)) t 1 []).1 by rw [HKJ.out]; exact Wb.start_take K j hjK)
      have hi : (j : Int) < (n : Int) := by omega
      have hwa := below_alloc1 wr (.cells #[.int .i64 t.kind, .string t.name, .slice A1 t.kids.length c1] 29)
      have bk := Box.new wr (.int .i64 t.kind) (.string t.name) (.slice A1 t.kids.length c1)
      have HWA := Lib.hid (hwj.later hwa); have HTA := Lib.hid (htj.keep (S' := nr g w.heap.size vsj vpj) (fun b hb hl => ⟨hb, hwa.block b hl⟩)); have HKA := Lib.hid (hkj.keep (S' := nr g w.heap.size vsj vpj) (fun b hb hl => ⟨hb, hwa.block b hl⟩)); have HBA := Lib.hid (hbj.trans (hwa.mono hbj.size)); have HLT := Lib.hid hlt
      have HTAKE := Lib.hid (HTK.out t HTU.out _ _ 1 [] none 0 g w.heap.size _ vsj vpj (Wb.start_inv HKU.out j) HWA.out HKA.out (NumsIn.none_ _ _))
      clear hwj htj hbj hkj hwa
      go_upto_region 5 with fail
      generalize wr.alloc (.cells #[.int .i64 t.kind, .string t.name, .slice A1 t.kids.length c1] 29) = wa at *
      obtain ⟨k0, k1, k2⟩ := bk.cells
      clear bk d0 d1 d2
      go_wp2_with fail
      refine HTAKE.out.mono ?_; rintro e w3 ⟨rfl, vs3, vp3, hw3, hf3⟩
      have HW3 := Lib.hid (show WebAt w.heap.size w3 g w.heap.size vs3 vp3 (Wb.start (K.take (j + 1))) by rw [HST.out]; exact hw3)
      have HT3 := Lib.hid (HTA.out.fr hf3); have HB3 := Lib.hid (HBA.out.trans hf3.below)
      clear hw3 hf3 k0 k1 k2
      go_wp2_with fail
      go_roundw
      case rel => exact ⟨j + 1, _, _, HLT.out, by go_num, HW3.out, HT3.out, HB3.out⟩
      case measure => have := HLT.out; simp [intOf]; omega
    · obtain rfl : j = n := by omega
      have HI0 := Lib.hid (show Inv U (Wb.start K) by have := Wb.start_inv HKU.out j; rw [List.take_of_length_le (by rw [HN.out]; omega)] at this; exact this)
      have HWJ := Lib.hid (show WebAt w.heap.size wr g w.heap.size vsj vpj (Wb.start K) by rw [List.take_of_length_le (by rw [HN.out]; omega)] at hwj; exact hwj)
      have HBJ := Lib.hid hbj
      clear hwj htj hbj
      go_upto_region 8 with fail
      go_loopg [6] (N + 1) (fun gg s6 wr2 => ∃ (m : Bool) (Wj : List Stp) (f : Nat) (vs2 vp2 : Value), s6 = .bool m ∧ WebAt w.heap.size wr2 g w.heap.size vs2 vp2 Wj ∧ Inv U Wj ∧ Below w.heap.size w wr2 ∧ (m = true → Wb.run N f Wj = R ∧ N + 1 ≤ Wb.np Wj + f ∧ N + 1 ≤ Wb.np Wj + gg) ∧ (m = false → Wj = R))
      case atStart => exact ⟨true, _, N + 1, _, _, rfl, HWJ.out, HI0.out, HBJ.out, fun _ => ⟨HR.out, Nat.le_add_left _ _, Nat.le_add_left _ _⟩, fun e => by cases e⟩
      case round =>
        obtain ⟨m, Wj, f, vs2, vp2, rfl, hw2, hI2, hb2, hm1, hm2⟩ := hrel
        have HW2 := Lib.hid hw2; have HI2 := Lib.hid hI2; have HB2 := Lib.hid hb2
        cases m with
        | false =>
          have HE := Lib.hid (hm2 rfl)
          clear hw2 hI2 hb2 hm1 hm2
          go_wp2_with fail
          go_ret
          exact ⟨g, w.heap.size, _, _, rfl, by rw [← HE.out]; exact HW2.out, HB2.out⟩
        | true =>
          have HM := Lib.hid (hm1 rfl)
          have HNP := Lib.hid (show Wb.np Wj ≤ N from Nat.le_trans (Wb.np_le Wj) (HL.out Wj hI2))
          clear hw2 hI2 hb2 hm1 hm2
          obtain ⟨wo, rfl⟩ : ∃ wo : World, wo = wr := ⟨_, rfl⟩
          go_upto_region 11 with fail
          go_loopw [6, 7] (fun s6 s7 wi => ∃ (m2 : Bool) (i fi : Nat) (Wi : List Stp) (vsi vpi : Value), s6 = .bool m2 ∧ s7 = .int .i64 i ∧ i ≤ N ∧ N ≤ fi + i ∧ Wb.rnd fi i m2 Wi = Wb.rnd N 0 false Wj ∧ Inv U Wi ∧ WebAt w.heap.size wi g w.heap.size vsi vpi Wi ∧ Below w.heap.size w wi) (fun _ i _ => N + 1 - (intOf i).toNat)
          case atStart => exact ⟨false, 0, N, Wj, _, _, rfl, rfl, Nat.zero_le _, by omega, rfl, HI2.out, HW2.out, HB2.out⟩
          case round =>
            obtain ⟨m2, i, fi, Wi, vsi, vpi, rfl, rfl, hiN, hfi, hrnd, hIi, hwi, hbi⟩ := hrel
            obtain ⟨A7, c7, A8, c8, rfl, rfl⟩ := hwi.shapes
            have HWI := Lib.hid hwi; have HII := Lib.hid hIi; have HBI := Lib.hid hbi; have HRND := Lib.hid hrnd
            have hd0 := hwi.cells.1; have hd2 := hwi.cells.2.2.1
            by_cases hlt : i < Wi.length
            · have hlN := HL.out Wi hIi
              obtain ⟨f', hf'⟩ : ∃ f', fi = f' + 1 := ⟨fi - 1, by omega⟩
              subst hf'
              have HLT := Lib.hid hlt; have HLN := Lib.hid (show i + 1 ≤ N ∧ N ≤ f' + (i + 1) by omega)
              obtain ⟨gp, cp, hvp, p0, _, _⟩ := hwi.part_row hlt
              injection hvp with h1 _ h3; subst h1; subst h3
              have hi1 : (0 : Int) ≤ (i : Int) ∧ (i : Int) < (Wi.length : Int) := by omega
              obtain ⟨hi1, hi2⟩ := hi1
              have hi3 : (i : Int) ≤ 1048576 := by omega
              clear hwi hIi hbi hrnd hfi hlN hiN
              cases hp : (Wi[i]'(hlt)).part with
              | false =>
                rw [hp] at p0
                have HE := Lib.hid (show Wb.rnd f' (i + 1) m2 Wi = Wb.rnd N 0 false Wj by rw [← HRND.out]; exact (Wb.rnd_skip hlt hp).symm)
                clear hp hlt
                go_wp2_with fail
                go_roundw
                case rel => exact ⟨m2, i + 1, f', Wi, _, _, rfl, by go_num, HLN.out.1, HLN.out.2, HE.out, HII.out, HWI.out, HBI.out⟩
                case measure => have := HLN.out.1; simp [intOf]; omega
              | true =>
                rw [hp] at p0
                have hap := HAP.out i wr g w.heap.size _ _ Wi hlt HII.out HWI.out
                have hai := HAI.out i Wi hlt HII.out
                have hst := (Wb.rnd_step (f := f') (m := m2) hlt hp).symm.trans HRND.out
                generalize Wb.apart Wi i = r at hap hai hst
                have HAPR := Lib.hid hap; have HAIR := Lib.hid hai; have HSTR := Lib.hid hst
                clear hp hlt hap hai hst
                go_wp2_with fail
                refine HAPR.out.mono ?_; rintro e w3 ⟨rfl, vs3, vp3, hw3, hf3⟩
                have HW3 := Lib.hid hw3; have HB3 := Lib.hid (HBI.out.trans hf3.below)
                clear hw3 hf3 p0 hd0 hd2
                obtain ⟨r1, r2⟩ := r
                cases r2 with
                | true =>
                  have HE := Lib.hid (show Wb.rnd f' (i + 1) true r1 = Wb.rnd N 0 false Wj by have := HSTR.out; rw [Bool.or_true] at this; exact this)
                  go_wp2_with fail
                  go_roundw
                  case rel => exact ⟨true, i + 1, f', r1, _, _, rfl, by go_num, HLN.out.1, HLN.out.2, HE.out, HAIR.out, HW3.out, HB3.out⟩
                  case measure => have := HLN.out.1; simp [intOf]; omega
                | false =>
                  have HE := Lib.hid (show Wb.rnd f' (i + 1) m2 r1 = Wb.rnd N 0 false Wj by have := HSTR.out; rw [Bool.or_false] at this; exact this)
                  go_wp2_with fail
                  go_roundw
                  case rel => exact ⟨m2, i + 1, f', r1, _, _, rfl, by go_num, HLN.out.1, HLN.out.2, HE.out, HAIR.out, HW3.out, HB3.out⟩
                  case measure => have := HLN.out.1; simp [intOf]; omega
            · have hi2 : ¬ ((i : Int) < (Wi.length : Int)) := by omega
              have HE := Lib.hid (show Wb.rnd N 0 false Wj = (Wi, m2) by rw [← HRND.out]; exact Wb.rnd_end (by omega))
              have HGK := Lib.hid (show 0 < gk ∧ 0 < f by have := HM.out; have := HNP.out; omega)
              clear hwi hIi hbi hrnd hfi hiN hlt
              go_wp2_with fail
              go_roundg (gk - 1)
              case measure => have := HGK.out; omega
              case rel =>
                refine ⟨m2, Wi, f - 1, _, _, rfl, HWI.out, HII.out, HBI.out, fun e => ?_, fun e => ?_⟩
                · subst e
                  obtain ⟨h1, h2, h3⟩ := HM.out
                  obtain ⟨h4, h5⟩ := HGK.out
                  have h6 := (Wb.np_rnd N 0 false Wj).2
                  rw [HE.out] at h6
                  have h7 : Wb.np Wj + 1 ≤ Wb.np Wi := by
                    rcases h6 rfl with h | h
                    · cases h
                    · exact h
                  refine ⟨?_, by omega, by omega⟩
                  rw [← h1, show f = f - 1 + 1 by omega, Wb.run_more HE.out, Nat.add_sub_cancel]
                · subst e
                  obtain ⟨h1, h2, h3⟩ := HM.out
                  obtain ⟨h4, h5⟩ := HGK.out
                  rw [← h1, show f = f - 1 + 1 by omega, Wb.run_done HE.out]
end Go.Proofs.YtihbmgkbipeakaaGreat

namespace Go.Proofs.YtihbmgkbipeakaaGreat
open Go.RowKit

/-- Is a value of the kinds that terms are made of. -/
def flatV : Value → Bool
  | .int _ _ => true
  | .string _ => true
  | .slice _ _ _ => true
  | _ => false
theorem TermAt.flat {w : World} {a b c : Value} {t : T} (h : TermAt w (.agg #[a, b, c]) t) : flatV a = true ∧ flatV b = true ∧ flatV c = true := by
  obtain ⟨A, cap, U, e, _⟩ := TermAt.inv h
  injection e with e; injection e with e; injection e with e0 e; injection e with e1 e; injection e with e2 _
  rw [e0, e1, e2]; exact ⟨rfl, rfl, rfl⟩
theorem TermAt.keepV {w w' : World} {v : Value} {t : T} (h : TermAt w v t) (hk : ∀ p u, w.cell? p = some u → flatV u = true → w'.cell? p = some u) : TermAt w' v t := by
  induction h with
  | mk k s A cap ks U h1 h2 h3 h4 hA hU ih =>
    refine .mk k s A cap ks U h1 h2 h3 h4 ?_ ih
    rcases hA with hA | ⟨b, off, e, hc⟩
    · exact .inl hA
    · refine .inr ⟨b, off, e, fun i hi => ?_⟩
      obtain ⟨c0, c1, c2⟩ := hc i hi
      obtain ⟨f0, f1, f2⟩ := (hU i hi).flat
      exact ⟨hk _ _ c0 f0, hk _ _ c1 f1, hk _ _ c2 f2⟩
theorem TermIn.keepV {S : Nat → Bool} {w w' : World} {v : Value} {t : T} (h : TermIn S w v t) (hk : ∀ p u, w.cell? p = some u → flatV u = true → w'.cell? p = some u) : TermIn S w' v t :=
  TermAt.keepV h fun p u hp hf => by
    rw [cell_only] at hp ⊢
    split at hp
    · rename_i hS; rw [if_pos hS]; exact hk p u hp hf
    · cases hp
theorem cell_point {w : World} {b : Nat} {p : Option Addr} {e : TypeId} (hb : w.heap[b]? = some (.cells #[.pointer p] e (0, 0))) (v : Value) : ∀ q u, w.cell? q = some u → flatV u = true → (w.setCell ⟨b, 0, none⟩ v).cell? q = some u := fun q u hq hf => by
  by_cases e : q.block = b
  · exfalso
    unfold World.cell? at hq
    rw [e, hb] at hq
    dsimp only at hq
    split at hq
    · cases hq
    · have : (#[Value.pointer p] : Array Value)[q.off]? = some u := hq
      rcases Nat.eq_zero_or_pos q.off with h0 | h0
      · rw [h0] at this; injection this with this; subst this; cases hf
      · rw [Array.getElem?_eq_none (by simp; omega)] at this; cases this
  · rw [World.cell?_setCell_other _ _ _ _ (by intro h; exact e (by rw [← h]))]
    exact hq
theorem StepAt.keepV {S : Nat → Bool} {w w' : World} {cs : List Value} {s : Stp} (h : StepAt S w cs s) (hk : ∀ p u, w.cell? p = some u → flatV u = true → w'.cell? p = some u) : StepAt S w' cs s := by
  obtain ⟨A, cap, F, fc, e, h1, h2⟩ := h
  refine ⟨A, cap, F, fc, e, h1.keepV hk, ?_⟩
  rcases h2 with h2 | ⟨b, off, e, hS, hc⟩
  · exact .inl h2
  · exact .inr ⟨b, off, e, hS, fun i hi => hk _ _ (hc i hi) rfl⟩
theorem WebAt.point {B g M b : Nat} {vs vp : Value} {W : List Stp} {w : World} {p : Option Addr} {e : TypeId} (h : WebAt B w g M vs vp W) (hb : w.heap[b]? = some (.cells #[.pointer p] e (0, 0))) (hB : b < B) (v : Value) : WebAt B (w.setCell ⟨b, 0, none⟩ v) g M vs vp W := by
  have ap := h.apart
  obtain ⟨css, h1, h2⟩ := h.steps
  obtain ⟨D, n, h4, h5, h6⟩ := h.map
  have l := h.low
  refine ⟨⟨css, ⟨h1.1, fun i a b => (h1.2 i a b).keepV (cell_point hb v)⟩, ?_⟩, ?_, ⟨D, n, h4.setCell (a := ⟨b, 0, none⟩) (fun e => by have : M = b := e; omega) _, h5, h6⟩, ?_, l, h.size⟩
  · exact own_keep h2 fun b' e _ => Below.heap_setCell _ _ _ _ (fun x => by have := (ap.s b' e).1; have : b' = b := x; omega)
  · exact own_keep h.part fun b' e _ => Below.heap_setCell _ _ _ _ (fun x => by have := (ap.p b' e).1; have : b' = b := x; omega)
  · exact (Below.heap_setCell w ⟨b, 0, none⟩ v g (fun e => by have : g = b := e; omega)).trans h.box
/-- What lies below the web lies outside it. -/
theorem nr_low {B g M : Nat} {vs vp : Value} {W : List Stp} {w : World} (h : WebAt B w g M vs vp W) {b : Nat} (hb : b < B) : nr g M vs vp b = true := by
  have ap := h.apart
  have l := h.low
  exact nr_iff.2 ⟨by omega, by omega, fun e => by have := (ap.s b e).1; omega, fun e => by have := (ap.p b e).1; omega⟩
theorem TermAt.low {B g M : Nat} {vs vp : Value} {W : List Stp} {w0 w : World} {v : Value} {t : T} (ht : TermAt w0 v t) (h : WebAt B w g M vs vp W) (hB : w0.heap.size ≤ B) (hb : Below w0.heap.size w0 w) : TermIn (nr g M vs vp) w v t :=
  ht.inAll.keep fun b _ hl => ⟨nr_low h (Nat.lt_of_lt_of_le hl hB), hb.block b hl⟩
/-- What is known is in memory. -/
def LearnAt (w w' : World) (g : Nat) (W : List Stp) : Prop := ∃ B M vs vp, w.heap.size < B ∧ WebAt B w' g M vs vp W
set_option maxRecDepth 100000 in
set_option maxHeartbeats 4000000 in
theorem olearn {U : List T} (hU : Uni U) (hbU : ∀ t ∈ U, t.bulk ≤ 1048576) (L : List T) (A : Option Addr) (cap : Nat) (w : World) (h : KnownAt w A cap L) (hb : ∀ t ∈ L, t.bulk ≤ 1048576) (hK : ∀ t ∈ cnt L, t ∈ U) :
    Calls Tryz.prog 48 #[.slice A L.length cap] w fun e w' => ∃ g, e = .returned (.agg #[.pointer (some ⟨g, 0, none⟩)]) ∧ LearnAt w w' g (Wb.fill U.length (cnt L)) ∧ Below w.heap.size w w' := by
  have hw := below_alloc1 w (.cells #[.pointer none] 84)
  have HF := Lib.hid (ofill hU hbU L A cap _ (h.later hw) hb hK)
  have bn : (w.alloc (.cells #[.pointer none] 84)).heap[w.heap.size]? = some (.cells #[.pointer none] 84 (0, 0)) := heap_alloc_new w _
  have hsz := size_alloc1 w (.cells #[.pointer none] 84)
  have HB1 := Lib.hid hw; have HSZ := Lib.hid hsz
  clear h hb hK hw hsz
  go_enter Tryz.func48, Tryz.ntmps48
  go_upto_region 1 with fail
  generalize w.alloc (.cells #[.pointer none] 84) = w1 at HF bn HB1 HSZ ⊢
  have HBN := Lib.hid bn
  clear bn
  go_wp2_with fail
  refine HF.out.mono ?_; rintro e w2 ⟨g, M, vs, vp, rfl, hw2, hb2⟩
  have bn2 : w2.heap[w.heap.size]? = some (.cells #[.pointer none] 84 (0, 0)) := (hb2.block _ (by have := HSZ.out; omega)).trans HBN.out
  have hlt : w.heap.size < w1.heap.size := by have := HSZ.out; omega
  have hw3 := hw2.point bn2 hlt (.pointer (some ⟨g, 0, none⟩))
  have hb3 := (HB1.out.trans (hb2.mono (Nat.le_of_lt hlt))).setCell (show w.heap.size ≤ (⟨w.heap.size, 0, none⟩ : Addr).block from Nat.le_refl _) (.pointer (some ⟨g, 0, none⟩))
  have c0 : w2.cell? ⟨w.heap.size, 0, none⟩ = some (.pointer none) := by unfold World.cell?; rw [bn2]; rfl
  have f0 : w2.frozen? ⟨w.heap.size, 0, none⟩ = false := by simp [World.frozen?, bn2]
  have c1 : (w2.setCell ⟨w.heap.size, 0, none⟩ (.pointer (some ⟨g, 0, none⟩))).cell? ⟨w.heap.size, 0, none⟩ = some (.pointer (some ⟨g, 0, none⟩)) := World.cell?_setCell_same _ _ _ c0
  have HE := Lib.hid (show LearnAt w (w2.setCell ⟨w.heap.size, 0, none⟩ (.pointer (some ⟨g, 0, none⟩))) g (Wb.fill U.length (cnt L)) from ⟨_, M, vs, vp, hlt, hw3⟩)
  have HB3 := Lib.hid hb3
  clear hw2 hb2 bn2 hw3 hb3 hlt
  go_wp2_with fail
  refine bodyPost_ret (v := .agg #[.pointer (some ⟨g, 0, none⟩)]) (by simp [results, Tryz.results48, go_sem, c1]) rfl ?_
  exact ⟨g, rfl, HE.out, HB3.out⟩

/-- Can a term be derived. -/
def canB (W : List Stp) (t : T) : Bool := t.use && (Wb.bld W t).2.isSome
theorem can_f {W : List Stp} {t : T} (h : t.use = false) : canB W t = false := by unfold canB; rw [h]; rfl
theorem can_n {W : List Stp} {t : T} (h : (Wb.bld W t).2 = none) : canB W t = false := by unfold canB; rw [h]; simp
theorem can_s {W : List Stp} {t : T} {i : Nat} (hu : t.use = true) (h : (Wb.bld W t).2 = some i) : canB W t = true := by unfold canB; rw [hu, h]; rfl
set_option maxRecDepth 100000 in
set_option maxHeartbeats 4000000 in
theorem okcan {U : List T} (hU : Uni U) (hbU : ∀ t ∈ U, t.bulk ≤ 1048576) {B g M : Nat} {vs vp : Value} {W : List Stp} (t : T) (v : Value) (w : World) (hI : Inv U W) (h : WebAt B w g M vs vp W) (hT : TermIn (nr g M vs vp) w v t) (hbk : t.bulk ≤ 1048576) (ht : t.use = true → t ∈ U) :
    Calls Tryz.prog 49 #[.agg #[.pointer (some ⟨g, 0, none⟩)], v] w fun e w' => e = .returned (.bool (canB W t)) ∧ ∃ W', WebTo B g M w vs vp W' w' := by
  obtain ⟨A0, cap0, rfl⟩ := hT.view
  obtain ⟨R, hR⟩ : ∃ R, canB W t = R := ⟨_, rfl⟩
  have hcf := can_f (W := W) (t := t); have hcn := can_n (W := W) (t := t); have hcs := fun i => can_s (W := W) (t := t) (i := i)
  rw [hR] at hcf hcn hcs ⊢
  have HCF := Lib.hid hcf; have HCN := Lib.hid hcn; have HCS := Lib.hid hcs
  have hb1 := below_alloc1 w (.cells #[.pointer (some ⟨g, 0, none⟩)] 84)
  have hb2 := below_alloc1 (w.alloc (.cells #[.pointer (some ⟨g, 0, none⟩)] 84)) (.cells #[.int .i64 t.kind, .string t.name, .slice A0 t.kids.length cap0] 29)
  have hz := h.lt.2
  have hbb := hb1.trans (hb2.mono hb1.size)
  have HW := Lib.hid (h.later hbb); have HT := Lib.hid (hT.keep (S' := nr g M vs vp) (fun b hb hl => ⟨hb, hbb.block b hl⟩)); have HF := Lib.hid ((Fr.refl B g M vs vp w).later hz hbb)
  have HUS := Lib.hid (fun v' W' hW => ousable t v' W' hW hbk)
  have HBU := Lib.hid (fun v' W' (hu : t.use = true) hW hT' => obuild (B := B) hU hbU (t.bulk + 1) t (by omega) (ht hu) v' W' g M vs vp W hI hW hT')
  have bx := Box.new (w.alloc (.cells #[.pointer (some ⟨g, 0, none⟩)] 84)) (.int .i64 t.kind) (.string t.name) (.slice A0 t.kids.length cap0)
  have hkb : (w.alloc (.cells #[.pointer (some ⟨g, 0, none⟩)] 84)).cell? ⟨w.heap.size, 0, none⟩ = some (.pointer (some ⟨g, 0, none⟩)) := by
    have := heap_alloc_new w (.cells #[.pointer (some ⟨g, 0, none⟩)] 84)
    unfold World.cell?; rw [this]; rfl
  have hka := cell_later hb2 hkb
  rw [size_alloc1] at bx
  clear hcf hcn hcs hR hb1 hb2 hbb h hT hI hbk ht hkb
  obtain ⟨k, hk⟩ : ∃ k, t.kind = k := ⟨_, rfl⟩
  obtain ⟨nm, hnm⟩ : ∃ nm, t.name = nm := ⟨_, rfl⟩
  obtain ⟨kn, hkn⟩ : ∃ kn, t.kids.length = kn := ⟨_, rfl⟩
  rw [hk, hnm, hkn] at bx HW HT HF hka ⊢
  clear hk hnm hkn
  go_enter Tryz.func49, Tryz.ntmps49
  go_upto_region 1 with fail
  generalize (w.alloc (.cells #[.pointer (some ⟨g, 0, none⟩)] 84)).alloc (.cells #[.int .i64 k, .string nm, .slice A0 kn cap0] 29) = w1 at bx HW HT HF hka ⊢
  obtain ⟨x0, x1, x2⟩ := bx.cells
  have BX := Lib.hid bx; have HKA := Lib.hid hka
  clear bx
  go_wp2_with fail
  refine (HUS.out _ _ HT.out.at).mono ?_; rintro e w2 ⟨rfl, hb2⟩
  have HW2 := Lib.hid (HW.out.later hb2); have HT2 := Lib.hid (HT.out.keep (S' := nr g M vs vp) (fun b hb hl => ⟨hb, hb2.block b hl⟩)); have HF2 := Lib.hid (HF.out.later hz hb2)
  obtain ⟨y0, y1, y2⟩ := (BX.out.later hb2).cells
  have hka2 := cell_later hb2 HKA.out
  clear hb2 x0 x1 x2 hka
  cases hu : t.use with
  | false =>
    have HE := Lib.hid (HCF.out hu)
    clear hu
    go_wp2_with fail
    go_ret
    exact ⟨ret_bool HE.out.symm, W, _, _, HW2.out, HF2.out⟩
  | true =>
    have hbl := HBU.out _ _ hu HW2.out HT2.out
    change Calls _ _ _ _ (BTo B g M _ vs vp (Wb.bld W t)) at hbl
    have HCSU := Lib.hid (fun i => HCS.out i hu)
    clear hu
    generalize Wb.bld W t = q at hbl HCN HCSU
    have HBLQ := Lib.hid hbl
    clear hbl
    go_wp2_with fail
    refine HBLQ.out.mono ?_; rintro e w3 ⟨he, vs3, vp3, hw3, hf3⟩
    have HW3 := Lib.hid hw3; have HF3 := Lib.hid (HF2.out.trans hf3)
    clear hw3 hf3 y0 y1 y2 hka2
    cases hq : q.2 with
    | none =>
      have he2 : e = .returned (.int .i64 (-1)) := by rw [he, hq]; rfl
      clear he; subst he2
      have HE := Lib.hid (HCN.out hq)
      clear hq
      go_wp2_with fail
      go_ret
      exact ⟨ret_bool HE.out.symm, q.1, _, _, HW3.out, HF3.out⟩
    | some p =>
      have he2 : e = .returned (.int .i64 (p : Int)) := by rw [he, hq]; rfl
      clear he; subst he2
      have hpos : (0 : Int) ≤ (p : Int) := by omega
      have HE := Lib.hid (HCSU.out p hq)
      clear hq
      go_wp2_with fail
      go_ret
      exact ⟨ret_bool HE.out.symm, q.1, _, _, HW3.out, HF3.out⟩

theorem fill_inv {U K : List T} (hU : Uni U) (hK : ∀ t ∈ K, t ∈ U) (N : Nat) : Inv U (Wb.fill N K) := by
  have h := Wb.start_inv hK K.length
  rw [List.take_of_length_le (Nat.le_refl _)] at h
  exact (Wb.run_facts hU ⟨#[]⟩ N (N + 1) _ h).1
set_option maxRecDepth 100000 in
set_option maxHeartbeats 4000000 in
theorem ocan {U : List T} (hU : Uni U) (hbU : ∀ t ∈ U, t.bulk ≤ 1048576) (L : List T) (A : Option Addr) (cap : Nat) (t : T) (v : Value) (w : World) (h : KnownAt w A cap L) (hb : ∀ t ∈ L, t.bulk ≤ 1048576) (hK : ∀ t ∈ cnt L, t ∈ U) (hT : TermAt w v t) (hbk : t.bulk ≤ 1048576) (ht : t.use = true → t ∈ U) :
    Calls Tryz.prog 19 #[.slice A L.length cap, v] w fun e w' => e = .returned (.bool (canB (Wb.fill U.length (cnt L)) t)) ∧ Below w.heap.size w w' := by
  have hv : ∃ A0 cap0, v = .agg #[.int .i64 t.kind, .string t.name, .slice A0 t.kids.length cap0] := by obtain ⟨A0, cap0, _, e, _⟩ := TermAt.inv hT; exact ⟨A0, cap0, e⟩
  obtain ⟨A0, cap0, rfl⟩ := hv
  have hw := below_alloc1 w (.cells #[.int .i64 t.kind, .string t.name, .slice A0 t.kids.length cap0] 29)
  have bx := Box.new w (.int .i64 t.kind) (.string t.name) (.slice A0 t.kids.length cap0)
  have HL := Lib.hid (fun W' (hW' : KnownAt W' A cap L) => olearn hU hbU L A cap W' hW' hb hK)
  have HI := Lib.hid (fill_inv hU hK U.length)
  have HKN := Lib.hid (h.later hw); have HT := Lib.hid (hT.later hw); have HB1 := Lib.hid hw
  have HC := Lib.hid (fun B g M vs vp v' W' (hW : WebAt B W' g M vs vp (Wb.fill U.length (cnt L))) hT' => okcan hU hbU t v' W' HI.out hW hT' hbk ht)
  generalize Wb.fill U.length (cnt L) = W at HL HI HC ⊢
  generalize canB W t = R at HC ⊢
  clear h hb hK hT hw hbk ht
  obtain ⟨k, hk⟩ : ∃ k, t.kind = k := ⟨_, rfl⟩
  obtain ⟨nm, hnm⟩ : ∃ nm, t.name = nm := ⟨_, rfl⟩
  obtain ⟨kn, hkn⟩ : ∃ kn, t.kids.length = kn := ⟨_, rfl⟩
  rw [hk, hnm, hkn] at bx HKN HT HB1 ⊢
  clear hk hnm hkn
  go_enter Tryz.func19, Tryz.ntmps19
  go_upto_region 1 with fail
  generalize w.alloc (.cells #[.int .i64 k, .string nm, .slice A0 kn cap0] 29) = w1 at bx HKN HT HB1 ⊢
  obtain ⟨x0, x1, x2⟩ := bx.cells
  have hsz1 : w.heap.size + 1 ≤ w1.heap.size := bx.lt
  clear bx
  (refine wp_region_held_drew (S := (fun Wq => Wq.cell? ⟨w.heap.size, 0, none⟩ = some (.int .i64 k) ∧ Wq.cell? ⟨w.heap.size, 1, none⟩ = some (.string nm) ∧ Wq.cell? ⟨w.heap.size, 2, none⟩ = some (.slice A0 kn cap0))) (by kernel_rfl) (show _ ∧ _ ∧ _ from ⟨x0, x1, x2⟩) (fun hHeld => ?_))
  (refine tkJ 0 _ (h := ?_))
  (refine tkJ 2 _ (h := ?_))
  (refine rdJ 1 (h := fun K hK => ?_); go_simp; go_at_call 48; refine (HL.out _ (HKN.out.later (Below.refl _ w1).drew)).mono ?_; rintro e w4 ⟨g, rfl, hl4, hb4⟩; have hb4' := below_undrew hb4; obtain ⟨B, M, vs, vp, hB4, hw4⟩ := hl4; have HB4 := Lib.hid (HB1.out.trans (hb4'.mono HB1.out.size)); have hT4 := HT.out.low hw4 (Nat.le_of_lt hB4) hb4'; refine shK hK (⟨cell_later hb4 hHeld.1, cell_later hb4 hHeld.2.1, cell_later hb4 hHeld.2.2⟩) (h := fun hHeld => ?_); clear hK K)
  (refine rdJ 3 (h := fun K hK => ?_); go_simp; go_at_call 49; refine (HC.out B g M vs vp _ _ hw4 hT4).mono ?_; rintro e w6 ⟨rfl, W6, vs6, vp6, hw6, hf6⟩; have HB6 := Lib.hid (HB4.out.trans (hf6.below.mono (Nat.le_trans HB1.out.size (Nat.le_of_lt hB4)))); refine shK hK (⟨cell_below hf6.below (Nat.lt_of_le_of_lt (Nat.le_refl _) (Nat.lt_trans (Nat.lt_of_lt_of_le (Nat.lt_succ_self _) hsz1) hB4)) hHeld.1, cell_below hf6.below (Nat.lt_of_le_of_lt (Nat.le_refl _) (Nat.lt_trans (Nat.lt_of_lt_of_le (Nat.lt_succ_self _) hsz1) hB4)) hHeld.2.1, cell_below hf6.below (Nat.lt_of_le_of_lt (Nat.le_refl _) (Nat.lt_trans (Nat.lt_of_lt_of_le (Nat.lt_succ_self _) hsz1) hB4)) hHeld.2.2⟩) (h := fun hHeld => ?_); clear hK K)
  (refine tkJ 4 _ (h := ?_))
  (refine wpAnyH_done (by kernel_rfl) ?_ _)
  go_wp2_with fail
  go_ret
  exact ⟨rfl, HB6.out⟩
end Go.Proofs.YtihbmgkbipeakaaGreat

namespace Go.Proofs.YtihbmgkbipeakaaGreat

/-- What can be taken apart is taken apart. -/
def TookT (P : T → Prop) (t : T) : Prop := (t.kind = 3 → P (t.kid 0) ∧ P (t.kid 1)) ∧ (t.kind = 6 → P (t.kid 1)) ∧ (t.kind = 5 → Syn P (t.kid 0) → P (t.kid 1))
def Took (P : T → Prop) : Prop := ∀ t, P t → TookT P t
/-- The least set of which all that can be taken apart is taken apart. -/
def An (K : T → Prop) (t : T) : Prop := ∀ Q : T → Prop, Took Q → (∀ x, K x → Q x) → Q t
theorem TookT.iff {P Q : T → Prop} (h : ∀ x, P x ↔ Q x) {t : T} (ht : TookT P t) : TookT Q t :=
  ⟨fun hk => ⟨(h _).1 (ht.1 hk).1, (h _).1 (ht.1 hk).2⟩, fun hk => (h _).1 (ht.2.1 hk), fun hk hs => (h _).1 (ht.2.2 hk ((Syn.iff h _).2 hs))⟩
theorem An.known {K : T → Prop} {t : T} (h : K t) : An K t := fun _ _ hQ => hQ t h
theorem An.mono {K K' : T → Prop} (h : ∀ t, K t → K' t) {t : T} (ha : An K t) : An K' t := fun Q hQ hK => ha Q hQ fun x hx => hK x (h x hx)
theorem an_took (K : T → Prop) : Took (An K) := fun t ht => by
  refine ⟨fun hk => ⟨fun Q hQ hK => ((hQ t (ht Q hQ hK)).1 hk).1, fun Q hQ hK => ((hQ t (ht Q hQ hK)).1 hk).2⟩, fun hk Q hQ hK => (hQ t (ht Q hQ hK)).2.1 hk, fun hk hs Q hQ hK => (hQ t (ht Q hQ hK)).2.2 hk (hs.mono fun x hx => hx Q hQ hK)⟩
namespace Wb
theorem part_mark (W : List Stp) (i : Nat) (hi : i < W.length) (x : T) : Part (mark W i) x ↔ Part W x ∨ x = W[i].t := by
  constructor
  · rintro ⟨s, hs, h1, h2⟩
    obtain ⟨j, hj, rfl⟩ := List.getElem_of_mem hs
    have h3 : j < W.length := by rwa [mark_len] at hj
    have hm := mark_t W i j hj h3
    by_cases e : i = j
    · subst e; right; rw [← h2, hm.1]
    · left
      refine ⟨W[j], List.getElem_mem h3, ?_, by rw [← h2, hm.1]⟩
      have := hm.2.2.2
      rw [if_neg e] at this
      rw [← this]; exact h1
  · intro h
    have key : ∀ j (h3 : j < W.length), (W[j].part = true ∨ i = j) → Part (mark W i) W[j].t := fun j h3 hp => by
      have hj : j < (mark W i).length := by rw [mark_len]; exact h3
      have hm := mark_t W i j hj h3
      refine ⟨(mark W i)[j], List.getElem_mem hj, ?_, hm.1⟩
      rw [hm.2.2.2]
      by_cases e : i = j
      · rw [if_pos e]
      · rw [if_neg e]; rcases hp with hp | hp
        · exact hp
        · exact absurd hp e
    rcases h with ⟨s, hs, h1, h2⟩ | h
    · obtain ⟨j, h3, rfl⟩ := List.getElem_of_mem hs
      rw [← h2]; exact key j h3 (.inl h1)
    · rw [h]; exact key i hi (.inr rfl)
theorem add_at {U : List T} (hU : Uni U) {W : List Stp} (hW : Inv U W) {t : T} (ht : t ∈ U) (how : Nat) (frm : List Nat) : ∃ h : (add W t how frm).2 < (add W t how frm).1.length, (add W t how frm).1[(add W t how frm).2].t = t := by
  cases hf : find W t with
  | some i =>
    obtain ⟨hi, e⟩ := find_eq hU hW ht hf
    rw [add_some hf]; exact ⟨hi, e⟩
  | none => rw [add_none hf]; exact ⟨by simp, by simp⟩
/-- Taking a term: it is among what was taken apart; 'false' where it was before. -/
theorem part_take {U : List T} (hU : Uni U) {W : List Stp} (hW : Inv U W) {t : T} (ht : t ∈ U) (how : Nat) (frm : List Nat) :
    (∀ x, Part (take W t how frm).1 x ↔ Part W x ∨ x = t) ∧ ((take W t how frm).2 = false → Part W t ∧ (take W t how frm).1 = (add W t how frm).1) := by
  obtain ⟨hi, e⟩ := add_at hU hW ht how frm
  have hp := part_at hi
  unfold take
  split
  · rename_i h
    rw [hp] at h
    have hpt : Part W t := (part_add W t how frm t).1 ⟨_, List.getElem_mem hi, h, e⟩
    refine ⟨fun x => (part_add _ _ _ _ x).trans ⟨.inl, fun h => ?_⟩, fun _ => ⟨hpt, rfl⟩⟩
    rcases h with h | h
    · exact h
    · rw [h]; exact hpt
  · refine ⟨fun x => ?_, fun h => by cases h⟩
    rw [part_mark _ _ hi, e, part_add]
/-- A step is taken apart: what comes of it. -/
theorem apart_part {U : List T} (hU : Uni U) {W : List Stp} (hW : Inv U W) {i : Nat} (hi : i < W.length) :
    (∀ x, Part W x → Part (apart W i).1 x) ∧ (∀ Q, Took Q → Sound Q W → (∀ x, Part W x → Q x) → Q W[i].t → Sound Q (apart W i).1 ∧ ∀ x, Part (apart W i).1 x → Q x) ∧
    ((apart W i).2 = false → Sound (Part W) W → W <+: (apart W i).1 ∧ (∀ x, Part (apart W i).1 x ↔ Part W x) ∧ TookT (Part W) W[i].t) := by
  have hm : W[i].t ∈ U := hW.mem _ (List.getElem_mem hi)
  have hs := T.shapeK (Bool.and_eq_true_iff.1 (hU.ok _ hm)).2
  unfold apart
  rw [term_at hi]
  generalize W[i].t = t at hm hs ⊢
  dsimp only
  split
  · rename_i h3
    have k0 := hU.kid t hm 0 (by omega)
    have k1 := hU.kid t hm 1 (by omega)
    obtain ⟨a1, a2⟩ := part_take hU hW k0 2 [i]
    have hW1 := take_inv 2 [i] hW k0
    obtain ⟨b1, b2⟩ := part_take hU hW1 k1 3 [i]
    refine ⟨fun x hx => (b1 x).2 (.inl ((a1 x).2 (.inl hx))), fun Q hQ hS hP ht => ?_, fun hf hS => ?_⟩
    · obtain ⟨q0, q1⟩ := (hQ t ht).1 h3
      refine ⟨(hS.take (.base q0) 2 [i]).take (.base q1) 3 [i], fun x hx => ?_⟩
      rcases (b1 x).1 hx with h | h
      · rcases (a1 x).1 h with h | h
        · exact hP x h
        · rw [h]; exact q0
      · rw [h]; exact q1
    · rw [Bool.or_eq_false_iff] at hf
      obtain ⟨c1, c2⟩ := a2 hf.2
      obtain ⟨d1, d2⟩ := b2 hf.1
      have e1 : Part W (t.kid 1) := by
        rcases (a1 _).1 d1 with h | h
        · exact h
        · rw [h]; exact c1
      refine ⟨?_, fun x => (b1 x).trans ⟨fun h => ?_, fun h => .inl ((a1 x).2 (.inl h))⟩, fun _ => ⟨c1, e1⟩, fun h => by omega, fun h => by omega⟩
      · rw [d2]
        refine List.IsPrefix.trans ?_ (add_pre _ _ _ _).1
        rw [c2]; exact (add_pre _ _ _ _).1
      · rcases h with h | h
        · rcases (a1 x).1 h with h | h
          · exact h
          · rw [h]; exact c1
        · rw [h]; exact e1
  · split
    · rename_i h6
      have k1 := hU.kid t hm 1 (by omega)
      obtain ⟨a1, a2⟩ := part_take hU hW k1 5 [i]
      refine ⟨fun x hx => (a1 x).2 (.inl hx), fun Q hQ hS hP ht => ?_, fun hf hS => ?_⟩
      · have q1 := (hQ t ht).2.1 h6
        refine ⟨hS.take (.base q1) 5 [i], fun x hx => ?_⟩
        rcases (a1 x).1 hx with h | h
        · exact hP x h
        · rw [h]; exact q1
      · obtain ⟨c1, c2⟩ := a2 hf
        refine ⟨by rw [c2]; exact (add_pre _ _ _ _).1, fun x => (a1 x).trans ⟨fun h => ?_, .inl⟩, fun h => by omega, fun _ => c1, fun h => by omega⟩
        rcases h with h | h
        · exact h
        · rw [h]; exact c1
    · split
      · rename_i h5
        have k0 := hU.kid t hm 0 (by omega)
        have k1 := hU.kid t hm 1 (by omega)
        split
        · rename_i ha
          refine ⟨fun x hx => hx, fun Q hQ hS hP ht => ⟨hS, hP⟩, fun _ hS => ⟨List.prefix_refl _, fun x => Iff.rfl, fun h => by omega, fun h => by omega, fun _ _ => ?_⟩⟩
          cases hf : find W (t.kid 1) with
          | none => rw [hf] at ha; cases ha
          | some m =>
            rw [hf] at ha
            obtain ⟨hm', e⟩ := find_eq hU hW k1 hf
            have ha' : partAt W m = true := ha
            rw [part_at hm'] at ha'
            exact ⟨_, List.getElem_mem hm', ha', e⟩
        · obtain ⟨b1, b2, _⟩ := bld_inv hU k0 hW
          have hpb : ∀ x, Part (bld W (t.kid 0)).1 x ↔ Part W x := par_build _ _ W
          split
          · rename_i hn
            refine ⟨fun x hx => (hpb x).2 hx, fun Q hQ hS hP ht => ⟨(build_syn hU Q _ _ k0 W hW hS).1, fun x hx => hP x ((hpb x).1 hx)⟩, fun _ hS => ⟨b2, hpb, fun h => by omega, fun h => by omega, fun _ hk => ?_⟩⟩
            obtain ⟨r, hr⟩ := (bld_iff hU k0 hW hS).2 hk
            rw [hr] at hn; cases hn
          · rename_i k hk
            obtain ⟨a1, a2⟩ := part_take hU b1 k1 4 [i, k]
            refine ⟨fun x hx => (a1 x).2 (.inl ((hpb x).2 hx)), fun Q hQ hS hP ht => ?_, fun hf hS => ?_⟩
            · obtain ⟨c1, c2⟩ := build_syn hU Q _ _ k0 W hW hS
              have q1 := (hQ t ht).2.2 h5 (c2 k hk)
              refine ⟨Sound.take c1 (.base q1) 4 [i, k], fun x hx => ?_⟩
              rcases (a1 x).1 hx with h | h
              · exact hP x ((hpb x).1 h)
              · rw [h]; exact q1
            · obtain ⟨c1, c2⟩ := a2 hf
              have c3 := (hpb _).1 c1
              refine ⟨by rw [c2]; exact b2.trans (add_pre _ _ _ _).1, fun x => (a1 x).trans ⟨fun h => ?_, fun h => .inl ((hpb x).2 h)⟩, fun h => by omega, fun h => by omega, fun _ _ => c3⟩
              rcases h with h | h
              · exact (hpb x).1 h
              · rw [h]; exact c3
      · refine ⟨fun x hx => hx, fun Q hQ hS hP ht => ⟨hS, hP⟩, fun _ hS => ⟨List.prefix_refl _, fun x => Iff.rfl, fun h => by omega, fun h => by omega, fun h => by omega⟩⟩
/-- All steps can be put together of what was taken apart. -/
theorem apart_sound {U : List T} (hU : Uni U) {W : List Stp} (hW : Inv U W) {i : Nat} (hi : i < W.length) (Q : T → Prop) (hQ : ∀ x, Part (apart W i).1 x → Q x) (hS : Sound Q W) : Sound Q (apart W i).1 := by
  have hm : W[i].t ∈ U := hW.mem _ (List.getElem_mem hi)
  have hs := T.shapeK (Bool.and_eq_true_iff.1 (hU.ok _ hm)).2
  unfold apart at hQ ⊢
  rw [term_at hi] at hQ ⊢
  generalize W[i].t = t at hm hs hQ ⊢
  dsimp only at hQ ⊢
  split
  · rename_i h3
    rw [if_pos h3] at hQ
    have k0 := hU.kid t hm 0 (by omega)
    have k1 := hU.kid t hm 1 (by omega)
    have a1 := (part_take hU hW k0 2 [i]).1
    have b1 := (part_take hU (take_inv 2 [i] hW k0) k1 3 [i]).1
    exact (hS.take (.base (hQ _ ((b1 _).2 (.inl ((a1 _).2 (.inr rfl)))))) 2 [i]).take (.base (hQ _ ((b1 _).2 (.inr rfl)))) 3 [i]
  · rename_i h3
    rw [if_neg h3] at hQ
    split
    · rename_i h6
      rw [if_pos h6] at hQ
      have k1 := hU.kid t hm 1 (by omega)
      have a1 := (part_take hU hW k1 5 [i]).1
      exact hS.take (.base (hQ _ ((a1 _).2 (.inr rfl)))) 5 [i]
    · rename_i h6
      rw [if_neg h6] at hQ
      split
      · rename_i h5
        rw [if_pos h5] at hQ
        have k0 := hU.kid t hm 0 (by omega)
        have k1 := hU.kid t hm 1 (by omega)
        split
        · exact hS
        · rename_i ha
          rw [if_neg ha] at hQ
          obtain ⟨b1, b2, _⟩ := bld_inv hU k0 hW
          have c1 : Sound Q (bld W (t.kid 0)).1 := (build_syn hU Q _ _ k0 W hW hS).1
          cases hk : (bld W (t.kid 0)).2 with
          | none => exact c1
          | some k =>
            rw [hk] at hQ
            have a1 := (part_take hU b1 k1 4 [i, k]).1
            exact Sound.take c1 (.base (hQ _ ((a1 _).2 (.inr rfl)))) 4 [i, k]
      · exact hS
theorem rnd_true : ∀ (f i : Nat) (W : List Stp), (rnd f i true W).2 = true
  | 0, _, _ => rfl
  | f + 1, i, W => by
    simp only [rnd]
    split
    · split
      · rw [Bool.true_or]; exact rnd_true f _ _
      · exact rnd_true f _ _
    · rfl
/-- A round. -/
theorem rnd_part {U : List T} (hU : Uni U) : ∀ (f i : Nat) (m : Bool) (W : List Stp), Inv U W → Sound (Part W) W →
    Inv U (rnd f i m W).1 ∧ Sound (Part (rnd f i m W).1) (rnd f i m W).1 ∧ (∀ x, Part W x → Part (rnd f i m W).1 x) ∧ (∀ Q, Took Q → (∀ x, Part W x → Q x) → ∀ x, Part (rnd f i m W).1 x → Q x) ∧
    (U.length ≤ f + i → (rnd f i m W).2 = false → (∀ x, Part (rnd f i m W).1 x ↔ Part W x) ∧ ∀ j (h : j < W.length), i ≤ j → W[j].part = true → TookT (Part W) W[j].t)
  | 0, i, m, W, hW, hS => ⟨hW, hS, fun _ h => h, fun _ _ h => h, fun hf _ => ⟨fun _ => Iff.rfl, fun j h hj _ => by have := hW.len; simp only [Nat.zero_add] at hf; omega⟩⟩
  | f + 1, i, m, W, hW, hS => by
    simp only [rnd]
    split
    · rename_i hi
      split
      · rename_i hp
        obtain ⟨a1, a2, a3⟩ := apart_part hU hW hi
        have hW1 := (apart_inv hU hW hi).1
        have hS1 : Sound (Part (apart W i).1) (apart W i).1 := apart_sound hU hW hi _ (fun x hx => hx) (fun s hs => (hS s hs).mono a1)
        obtain ⟨b1, b2, b3, b4, b5⟩ := rnd_part hU f (i + 1) (m || (apart W i).2) _ hW1 hS1
        have hpi : W[i].part = true := by rw [part_at hi] at hp; exact hp
        refine ⟨b1, b2, fun x hx => b3 x (a1 x hx), fun Q hQ hP => b4 Q hQ (a2 Q hQ (fun s hs => (hS s hs).mono hP) hP (hP _ ⟨_, List.getElem_mem hi, hpi, rfl⟩)).2, fun hf hr => ?_⟩
        have hap : (apart W i).2 = false := by
          cases h : (apart W i).2 with
          | false => rfl
          | true => rw [h, Bool.or_true, rnd_true] at hr; cases hr
        obtain ⟨c1, c2, c3⟩ := a3 hap hS
        obtain ⟨d1, d2⟩ := b5 (by omega) hr
        refine ⟨fun x => (d1 x).trans (c2 x), fun j h hj hpj => ?_⟩
        by_cases e : j = i
        · subst e; exact c3
        · have hlt : j < (apart W i).1.length := Nat.lt_of_lt_of_le h c1.length_le
          have he : (apart W i).1[j] = W[j] := (c1.getElem h).symm
          have := d2 j hlt (by omega) (by rw [he]; exact hpj)
          rw [he] at this
          exact this.iff c2
      · rename_i hp
        obtain ⟨b1, b2, b3, b4, b5⟩ := rnd_part hU f (i + 1) m W hW hS
        refine ⟨b1, b2, b3, b4, fun hf hr => ?_⟩
        obtain ⟨d1, d2⟩ := b5 (by omega) hr
        refine ⟨d1, fun j h hj hpj => ?_⟩
        by_cases e : j = i
        · subst e; rw [part_at hi] at hp; exact absurd hpj hp
        · exact d2 j h (by omega) hpj
    · rename_i hi
      exact ⟨hW, hS, fun _ h => h, fun _ _ h => h, fun _ _ => ⟨fun _ => Iff.rfl, fun j h hj _ => by omega⟩⟩
/-- All rounds. -/
theorem run_part {U : List T} (hU : Uni U) : ∀ (f : Nat) (W : List Stp), Inv U W → Sound (Part W) W → U.length < f + np W →
    Inv U (run U.length f W) ∧ Sound (Part (run U.length f W)) (run U.length f W) ∧ (∀ x, Part W x → Part (run U.length f W) x) ∧ (∀ Q, Took Q → (∀ x, Part W x → Q x) → ∀ x, Part (run U.length f W) x → Q x) ∧ Took (Part (run U.length f W))
  | 0, W, hW, _, hf => by have := np_le W; have := hW.len; omega
  | f + 1, W, hW, hS, hf => by
    obtain ⟨b1, b2, b3, b4, b5⟩ := rnd_part hU U.length 0 false W hW hS
    have hn := np_rnd U.length 0 false W
    simp only [run]
    split
    · rename_i hr
      have h2 : np W + 1 ≤ np (rnd U.length 0 false W).1 := by
        rcases hn.2 hr with h | h
        · cases h
        · exact h
      obtain ⟨c1, c2, c3, c4, c5⟩ := run_part hU f _ b1 b2 (by omega)
      exact ⟨c1, c2, fun x hx => c3 x (b3 x hx), fun Q hQ hP => c4 Q hQ (b4 Q hQ hP), c5⟩
    · rename_i hr
      have hr' : (rnd U.length 0 false W).2 = false := by cases h : (rnd U.length 0 false W).2 with
        | false => rfl
        | true => exact absurd h hr
      obtain ⟨d1, d2⟩ := b5 (by omega) hr'
      refine ⟨b1, b2, b3, b4, fun t ht => ?_⟩
      obtain ⟨s, hs, h1, h2⟩ := (d1 t).1 ht
      obtain ⟨j, hj, rfl⟩ := List.getElem_of_mem hs
      rw [← h2]
      exact (d2 j hj (Nat.zero_le _) h1).iff fun x => (d1 x).symm
theorem start_part {U : List T} (hU : Uni U) : ∀ (ts : List T) (W : List Stp), (∀ t ∈ ts, t ∈ U) → Inv U W → Sound (Part W) W → Inv U (ts.foldl (fun W t => (take W t 1 []).1) W) ∧ Sound (Part (ts.foldl (fun W t => (take W t 1 []).1) W)) (ts.foldl (fun W t => (take W t 1 []).1) W) ∧
    ∀ x, Part (ts.foldl (fun W t => (take W t 1 []).1) W) x ↔ Part W x ∨ x ∈ ts
  | [], W, _, hW, hS => ⟨hW, hS, fun x => by simp⟩
  | t :: r, W, h, hW, hS => by
    have ht := h t (by simp)
    have a1 := (part_take hU hW ht 1 []).1
    have hS1 : Sound (Part (take W t 1 []).1) (take W t 1 []).1 := Sound.take (fun s hs => (hS s hs).mono fun x hx => (a1 x).2 (.inl hx)) (.base ((a1 t).2 (.inr rfl))) 1 []
    obtain ⟨b1, b2, b3⟩ := start_part hU r _ (fun x hx => h x (List.mem_cons_of_mem _ hx)) (take_inv 1 [] hW ht) hS1
    exact ⟨b1, b2, fun x => by rw [List.foldl_cons, b3, a1, List.mem_cons, or_assoc]⟩
/-- What fill takes apart is the least closed set. -/
theorem fill_part {U K : List T} (hU : Uni U) (hK : ∀ t ∈ K, t ∈ U) : Inv U (fill U.length K) ∧ Sound (Part (fill U.length K)) (fill U.length K) ∧ ∀ t, Part (fill U.length K) t ↔ An (· ∈ K) t := by
  obtain ⟨a1, a2, a3⟩ := start_part hU K [] hK (Inv.nil U) (fun s hs => by cases hs)
  obtain ⟨b1, b2, b3, b4, b5⟩ := run_part hU (U.length + 1) (start K) a1 a2 (by omega)
  have hst : ∀ x, Part (start K) x ↔ x ∈ K := fun x => (a3 x).trans ⟨fun h => by
    rcases h with ⟨s, hs, _⟩ | h
    · cases hs
    · exact h, .inr⟩
  refine ⟨b1, b2, fun t => ⟨fun ht Q hQ hQK => b4 Q hQ (fun x hx => hQK x ((hst x).1 hx)) t ht, fun ha => ha _ b5 fun x hx => b3 x ((hst x).2 hx)⟩⟩
end Wb
/-- What can be derived. -/
theorem can_iff {U K : List T} (hU : Uni U) (hK : ∀ t ∈ K, t ∈ U) {t : T} (ht : t.use = true → t ∈ U) : canB (Wb.fill U.length K) t = true ↔ t.use = true ∧ Syn (An (· ∈ K)) t := by
  obtain ⟨h1, h2, h3⟩ := Wb.fill_part hU hK
  unfold canB
  rw [Bool.and_eq_true]
  constructor
  · rintro ⟨hu, hs⟩
    obtain ⟨r, hr⟩ := Option.isSome_iff_exists.1 hs
    exact ⟨hu, (Syn.iff h3 t).1 ((Wb.bld_iff hU (ht hu) h1 h2).1 ⟨r, hr⟩)⟩
  · rintro ⟨hu, hs⟩
    obtain ⟨r, hr⟩ := (Wb.bld_iff hU (ht hu) h1 h2).2 ((Syn.iff h3 t).2 hs)
    exact ⟨hu, by rw [hr]; rfl⟩
end Go.Proofs.YtihbmgkbipeakaaGreat
