/- Chapter 11: the walk of Parse of the reference. -/
import Derived.Test.YtelngghecmkipaaGreatDoorTake
import Derived.Test.YtelngghecmkipaaGreatDoorZonPlain3
import Derived.Test.YtelngghecmkipaaGreatDoorZonParseW
import Derived.Test.YtelngghecmkipaaGreatDoorOptSplitRef2
import Derived.Deep.RegionHeld3
import Derived.IntWalk
namespace Go.Proofs.YtelngghecmkipaaGreatDoor
open Go.RowKit

theorem results_rparse (tmps : Array Value) (w : World) (g : Nat) (z : Zn.Z) (ha : tmps.getD 2 undef = .pointer (some ⟨g, 0, none⟩)) (h : ZBox w g z) :
    (results Tryz.f11 tmps).run Tryz.prog w = .ok (.tuple #[z.val, tmps.getD 3 undef]) w := by
  have hp' : tmps[2]?.getD undef = .pointer (some ⟨g, 0, none⟩) := by simpa using ha
  simp [results, hp', asAddr, run_loadVar_row (P := Tryz.prog) w g _ _ _ _ _ h Tryz.underlying24 rfl Tryz.infoZone, Zn.Z.val]
theorem rparse_ret {tmps : Array Value} {W w : World} {z z0 V : Zn.Z} {e E : Int} (h2 : tmps.getD 2 undef = .pointer (some ⟨w.heap.size, 0, none⟩)) (h3 : tmps.getD 3 undef = .int .i64 e)
    (hx : ZBox W w.heap.size z0) (hb : Below w.heap.size w W) (hz : V = z) (he : E = e) :
    bodyPost Tryz.prog Tryz.f11 (fun e' w' => e' = .returned (.tuple #[V.val, .int .i64 E]) ∧ Below w.heap.size w w') Exit.ret { tmps := tmps, defers := [] } (zset W w.heap.size z) := by
  refine bodyPost_ret (results_rparse _ _ w.heap.size z h2 (zset_box hx z)) rfl ?_
  rw [h3, hz, he]
  exact ⟨rfl, zset_below hb (Nat.le_refl _) z⟩
/-- A zone's row of cells. -/
def ZC (w : World) (g : Nat) (C : Array Value) : Prop := w.heap[g]? = some (.cells C 24 (0, 0))
theorem ZC.lt {w : World} {g : Nat} {C : Array Value} (h : ZC w g C) : g < w.heap.size := (Array.getElem?_eq_some_iff.1 h).1
theorem ZC.set {w : World} {g : Nat} {C : Array Value} (h : ZC w g C) (i : Nat) (v : Value) : ZC (w.setCell ⟨g, i, none⟩ v) g (C.setIfInBounds i v) := heap_setCell_same w g i C _ v h
theorem ZC.later {w w' : World} {g : Nat} {C : Array Value} (h : ZC w g C) (hb : Below w.heap.size w w') : ZC w' g C := (hb.block g h.lt).trans h
theorem ZC.cell {w : World} {g : Nat} {C : Array Value} (h : ZC w g C) (i : Nat) : w.cell? ⟨g, i, none⟩ = C[i]? := cell_of_row w g i C _ _ h
theorem ZC.free {w : World} {g : Nat} {C : Array Value} (h : ZC w g C) (i : Nat) : w.frozen? ⟨g, i, none⟩ = false := frozen_of_row w g i C _ h
/-- The result's zone, and the zone that is filled. -/
def RZ (w : World) (g : Nat) (C : Array Value) (W : World) : Prop := ZBox W w.heap.size Zn.Z.zero ∧ ZC W g C ∧ Below w.heap.size w W ∧ w.heap.size < g
theorem RZ.later {w W W' : World} {g : Nat} {C : Array Value} (h : RZ w g C W) (hb : Below W.heap.size W W') : RZ w g C W' := ⟨h.1.later hb, h.2.1.later hb, h.2.2.1.trans (hb.mono h.2.2.1.size), h.2.2.2⟩
theorem RZ.drew {w W : World} {g : Nat} {C : Array Value} (h : RZ w g C W) : RZ w g C W.drew := h.later ((Below.refl _ _).drew)
theorem RZ.drewN {w W : World} {g : Nat} {C : Array Value} (h : RZ w g C W) (n : Nat) : RZ w g C (W.drewN n) := h.later (below_drewN (Below.refl _ _) n)
theorem RZ.set {w W : World} {g : Nat} {C : Array Value} (h : RZ w g C W) (i : Nat) (v : Value) : RZ w g (C.setIfInBounds i v) (W.setCell ⟨g, i, none⟩ v) :=
  ⟨h.1.setOther (by show w.heap.size ≠ g; have := h.2.2.2; omega) v, h.2.1.set i v, h.2.2.1.setCell (p := ⟨g, i, none⟩) (Nat.le_of_lt h.2.2.2) v, h.2.2.2⟩
theorem rz_new {w W : World} {z0 : Zn.Z} {g : Nat} (hx : ZBox W w.heap.size z0) (hb : Below w.heap.size w W) (hg : g = W.heap.size) (C : Array Value) (h0 : z0 = Zn.Z.zero := by rfl) : RZ w g C ((W.alloc (.cells C 24)).drew) := by
  subst h0 hg
  have h1 := below_alloc1 W (.cells C 24)
  have h2 : RZ w W.heap.size C (W.alloc (.cells C 24)) := ⟨hx.later h1, heap_alloc_new W _, hb.trans (h1.mono hb.size), hx.lt⟩
  exact h2.drew
theorem one_byte {S : ByteArray} {l : List UInt8} (h : S = ⟨l.toArray⟩) (hl : l.length = 1) (h0 : 0 < S.size) : l = [S[0]'h0] := by
  subst h
  match l, hl with
  | [x], _ => rfl
theorem tr_run (k : ByteArray) (l : List UInt8) (t : ByteArray) (hk : k = ⟨l.toArray⟩) (ht : t = ⟨(Zn.tr l).toArray⟩) (hl : l.length ≤ 44) : ∀ W, Calls Tryz.prog 37 #[.string k] W fun e w' => e = .returned (.string t) ∧ W = w' := fun W => by
  have h := rtrim k W (by rw [hk, str_size]; omega)
  rw [ht, hk] at *
  exact h

set_option maxRecDepth 100000 in
set_option maxHeartbeats 16000000 in
theorem rparse (R : List ByteArray) (A : Option Addr) (c : Nat) (w : World) (hR : R.length ≤ 8796093022208) (hRs : ∀ s ∈ R, s.size ≤ 140737488351232) (hA : TextsAt w A R) :
    Calls Tryz.prog 11 #[.slice A R.length c] w fun e w' => e = .returned (.tuple #[(Zn.prsV (txts R)).val, .int .i64 (Zn.prsE (txts R))]) ∧ Below w.heap.size w w' := by
  have HA := Lib.hid hA
  have HFO := Lib.hid (fun W hW => rshape R A c W hR hW)
  have hbx := ZBox.new w Zn.Z.zero
  have hb1 := below_alloc1 w (.cells #[.int .i64 0, .string ⟨#[]⟩, .string ⟨#[]⟩, .string ⟨#[]⟩, .string ⟨#[]⟩, .string ⟨#[]⟩, .string ⟨#[]⟩, .string ⟨#[]⟩, .string ⟨#[]⟩, .string ⟨#[]⟩, .string ⟨#[]⟩, .string ⟨#[]⟩] 24)
  clear hA
  go_enter Tryz.func11, Tryz.ntmps11
  go_upto_region 1 with fail
  change ZBox (w.alloc (.cells #[.int .i64 0, .string ⟨#[]⟩, .string ⟨#[]⟩, .string ⟨#[]⟩, .string ⟨#[]⟩, .string ⟨#[]⟩, .string ⟨#[]⟩, .string ⟨#[]⟩, .string ⟨#[]⟩, .string ⟨#[]⟩, .string ⟨#[]⟩, .string ⟨#[]⟩] 24)) w.heap.size Zn.Z.zero at hbx
  generalize w.alloc (.cells #[.int .i64 0, .string ⟨#[]⟩, .string ⟨#[]⟩, .string ⟨#[]⟩, .string ⟨#[]⟩, .string ⟨#[]⟩, .string ⟨#[]⟩, .string ⟨#[]⟩, .string ⟨#[]⟩, .string ⟨#[]⟩, .string ⟨#[]⟩, .string ⟨#[]⟩] 24) = w1 at hbx hb1 ⊢
  have HX := Lib.hid hbx; have HB := Lib.hid hb1
  clear hbx hb1
  go_wp2_with fail
  refine (HFO.out _ (HA.out.later HB.out)).mono ?_; rintro e w2 ⟨rfl, rfl⟩
  obtain ⟨F, hF⟩ : ∃ F, Zn.shape (txts R) = F := ⟨_, rfl⟩
  rw [hF]
  by_cases h0 : F = 0
  · subst h0
    have hE : Zn.prsE (txts R) = 2 := by unfold Zn.prsE; rw [if_pos hF]
    have HE := Lib.hid hE; have HV := Lib.hid (Zn.prs_fail hE (by omega))
    clear hE hF
    obtain ⟨x0, x1, x2, x3, x4, x5, x6, x7, x8, x9, x10, x11⟩ := HX.out.cells
    have xf := fun i => ZBox.free HX.out i
    go_wp2_with fail
    exact rparse_ret (z := Zn.Z.zero) rfl rfl HX.out HB.out HV.out HE.out
  have hsh := Zn.shape_of (L := txts R) (by rw [hF]; exact h0)
  have hF3 := Zn.shape_le (txts R)
  rw [hF] at hsh hF3
  have hF1 : 1 ≤ F ∧ F ≤ 3 := by omega
  have hPE : Zn.prsE (txts R) = (if (txts R).all Opt.valid = false then 12 else if Zn.chk F (txts R) = false then 13 else if (Zn.nums F (txts R)).2.2 ≠ 0 then (Zn.nums F (txts R)).2.2 else if (Opt.splV ⟨(Zn.fld F (txts R) 2).toArray⟩).2.2.2 ≠ 0 then (Opt.splV ⟨(Zn.fld F (txts R) 2).toArray⟩).2.2.2 else Zn.vldE (Zn.prsZ F (txts R))) := by
    unfold Zn.prsE; rw [if_neg (by rw [hF]; exact h0), hF]
  have hPV : Zn.prsE (txts R) = 0 → Zn.prsV (txts R) = Zn.prsZ F (txts R) := fun h => by unfold Zn.prsV; rw [if_pos h, hF]
  have hne : ((F : Int) == 0) = false := by rw [beq_eq_false_iff_ne]; omega
  have HPE := Lib.hid hPE; have HPV := Lib.hid hPV; have HSH := Lib.hid hsh; have HF1 := Lib.hid hF1
  have hlenR : R.length = Zn.nLines F := by have := hsh.1; unfold txts at this; rwa [List.length_map] at this
  have hn3 : Zn.nLines F ≤ 3 ∧ 2 ≤ Zn.nLines F := by unfold Zn.nLines; split <;> omega
  have hR3 : R.length ≤ 3 := by omega
  have hR2 : 2 ≤ R.length := by omega
  have HLR := Lib.hid hlenR
  clear hPE hPV hsh hF1 hF3 hF hlenR hn3
  go_wp2_with fail
  go_loopw [5] (fun i wr => ∃ k : Nat, k ≤ R.length ∧ i = .int .i64 k ∧ (∀ m (h : m < k) (h1 : m < R.length), Opt.valid R[m].data.toList = true) ∧ w1 = wr) (fun i _ => R.length - (intOf i).toNat)
  case atStart => exact ⟨0, Nat.zero_le _, rfl, fun m h => absurd h (by omega), rfl⟩
  case round =>
    obtain ⟨k, hk, rfl, hval, rfl⟩ := hrel
    have HVAL := Lib.hid hval
    clear hval
    by_cases hlt : k < R.length
    · obtain ⟨b, off, rfl, e0⟩ := (HA.out.later HB.out).cell k hlt
      have hi : (k : Int) < (R.length : Int) := by omega
      obtain ⟨s, hs⟩ : ∃ s, R[k]'hlt = s := ⟨_, rfl⟩
      have hsz1 := hRs _ (List.getElem_mem hlt)
      have HLT := Lib.hid hlt
      have HSJ := Lib.hid hs
      rw [hs] at e0 hsz1
      have HVC := Lib.hid (rvalid10 s w1 (by unfold maxLen; omega))
      obtain ⟨q, hq⟩ : ∃ q, Opt.valid s.data.toList = q := ⟨_, rfl⟩
      rw [hq] at HVC
      have HQ := Lib.hid hq
      clear hq hs
      go_wp2_with fail
      refine HVC.out.mono ?_; rintro e w6 ⟨rfl, rfl⟩
      cases q
      · have HE := Lib.hid (show Zn.prsE (txts R) = 12 from by
          rw [HPE.out, if_pos]
          rw [Bool.eq_false_iff]; intro ha
          have := List.all_eq_true.1 ha (R[k]'HLT.out).data.toList (List.mem_map.2 ⟨_, List.getElem_mem _, rfl⟩)
          rw [HSJ.out, HQ.out] at this; cases this)
        obtain ⟨x0, x1, x2, x3, x4, x5, x6, x7, x8, x9, x10, x11⟩ := HX.out.cells
        have xf := fun i => ZBox.free HX.out i
        go_wp2_with fail
        exact rparse_ret (z := Zn.Z.zero) rfl rfl HX.out HB.out (Zn.prs_fail HE.out (by omega)) HE.out
      · go_wp2_with fail
        go_roundw
        case rel =>
          refine ⟨k + 1, HLT.out, by go_num, fun m h h1 => ?_, trivial⟩
          rcases Nat.lt_or_ge m k with g | g
          · exact HVAL.out m g h1
          · obtain rfl : m = k := by omega
            rw [HSJ.out]; exact HQ.out
        case measure => have := HLT.out; simp [intOf]; omega
    · obtain rfl : k = R.length := by omega
      have hV : (txts R).all Opt.valid = true := List.all_eq_true.2 fun x hx => by
        obtain ⟨s, hs, rfl⟩ := List.mem_map.1 hx
        obtain ⟨m, hm, rfl⟩ := List.getElem_of_mem hs
        exact HVAL.out m hm hm
      have hPE := HPE.out
      rw [if_neg (by rw [hV]; simp)] at hPE
      have HPE2 := Lib.hid hPE
      have HV := Lib.hid hV
      clear hPE hV HPE HVAL hlt hk
      -- the lines
      obtain ⟨b, off, rfl, c0⟩ := (HA.out.later HB.out).cell 0 (by omega)
      obtain ⟨b', off', e, c1⟩ := (HA.out.later HB.out).cell 1 (by omega)
      injection e with e; injection e with e1 e2 e3; subst e1; subst e2
      obtain ⟨SA, hSA⟩ : ∃ s, R[0]'(by omega) = s := ⟨_, rfl⟩
      obtain ⟨SB, hSB⟩ : ∃ s, R[1]'(by omega) = s := ⟨_, rfl⟩
      rw [hSA, Nat.add_zero] at c0
      rw [hSB] at c1
      have hA0 : R[0]? = some SA := by rw [List.getElem?_eq_getElem (by omega), hSA]
      have hB1 : R[1]? = some SB := by rw [List.getElem?_eq_getElem (by omega), hSB]
      have zA : SA.size = Zn.wLine F := by rw [← hSA, ← Opt.size_len]; exact HSH.out.2 _ (List.mem_map.2 ⟨_, List.getElem_mem _, rfl⟩)
      have zB : SB.size = Zn.wLine F := by rw [← hSB, ← Opt.size_len]; exact HSH.out.2 _ (List.mem_map.2 ⟨_, List.getElem_mem _, rfl⟩)
      have hwl : Zn.wLine F ≤ 44 ∧ 30 ≤ Zn.wLine F := by unfold Zn.wLine; split; · omega
                                                         split <;> omega
      have HA0 := Lib.hid hA0; have HB1 := Lib.hid hB1
      have HLC := Lib.hid (show TextsAt w1 (some ⟨b, off, none⟩) R from HA.out.later HB.out)
      have hi1 : 1 < R.length := by omega
      have hi0 : 0 < R.length := by omega
      clear hSA hSB hA0 hB1 e3
      go_wp2_with fail
      go_quiet (fail)
      have HX2 := Lib.hid (HX.out.later (below_drewN (Below.refl _ _) nq)); have HB2 := Lib.hid (below_drewN HB.out nq)
      have HLC2 := Lib.hid (show TextsAt (w1.drewN nq) (some ⟨b, off, none⟩) R from HLC.out)
      clear c0 c1 HX HB HLC
      generalize w1.drewN nq = w2 at HX2 HB2 HLC2 ⊢
      go_upto_region 10 with fail

      obtain ⟨k0, hk0⟩ : ∃ k : ByteArray, k = ⟨(Zn.fld F (txts R) 0).toArray⟩ := ⟨_, rfl⟩
      obtain ⟨k1, hk1⟩ : ∃ k : ByteArray, k = ⟨(Zn.fld F (txts R) 1).toArray⟩ := ⟨_, rfl⟩
      obtain ⟨k2, hk2⟩ : ∃ k : ByteArray, k = ⟨(Zn.fld F (txts R) 2).toArray⟩ := ⟨_, rfl⟩
      obtain ⟨k3, hk3⟩ : ∃ k : ByteArray, k = ⟨(Zn.fld F (txts R) 3).toArray⟩ := ⟨_, rfl⟩
      obtain ⟨k4, hk4⟩ : ∃ k : ByteArray, k = ⟨(Zn.fld F (txts R) 4).toArray⟩ := ⟨_, rfl⟩
      obtain ⟨k5, hk5⟩ : ∃ k : ByteArray, k = ⟨(Zn.fld F (txts R) 5).toArray⟩ := ⟨_, rfl⟩
      obtain ⟨k6, hk6⟩ : ∃ k : ByteArray, k = ⟨(Zn.fld F (txts R) 6).toArray⟩ := ⟨_, rfl⟩
      obtain ⟨k7, hk7⟩ : ∃ k : ByteArray, k = ⟨(Zn.fld F (txts R) 7).toArray⟩ := ⟨_, rfl⟩
      obtain ⟨k8, hk8⟩ : ∃ k : ByteArray, k = ⟨(Zn.fld F (txts R) 8).toArray⟩ := ⟨_, rfl⟩
      obtain ⟨k9, hk9⟩ : ∃ k : ByteArray, k = ⟨(Zn.fld F (txts R) 9).toArray⟩ := ⟨_, rfl⟩
      obtain ⟨k10, hk10⟩ : ∃ k : ByteArray, k = ⟨(Zn.fld F (txts R) 10).toArray⟩ := ⟨_, rfl⟩
      obtain ⟨k11, hk11⟩ : ∃ k : ByteArray, k = ⟨(Zn.fld F (txts R) 11).toArray⟩ := ⟨_, rfl⟩
      obtain ⟨k12, hk12⟩ : ∃ k : ByteArray, k = ⟨(Zn.fld F (txts R) 12).toArray⟩ := ⟨_, rfl⟩
      obtain ⟨k13, hk13⟩ : ∃ k : ByteArray, k = ⟨(Zn.fld F (txts R) 13).toArray⟩ := ⟨_, rfl⟩
      obtain ⟨k14, hk14⟩ : ∃ k : ByteArray, k = ⟨(Zn.fld F (txts R) 14).toArray⟩ := ⟨_, rfl⟩
      obtain ⟨t0, ht0⟩ : ∃ k : ByteArray, k = ⟨(Zn.tr (Zn.fld F (txts R) 0)).toArray⟩ := ⟨_, rfl⟩
      obtain ⟨t1, ht1⟩ : ∃ k : ByteArray, k = ⟨(Zn.tr (Zn.fld F (txts R) 1)).toArray⟩ := ⟨_, rfl⟩
      obtain ⟨t3, ht3⟩ : ∃ k : ByteArray, k = ⟨(Zn.tr (Zn.fld F (txts R) 3)).toArray⟩ := ⟨_, rfl⟩
      obtain ⟨t5, ht5⟩ : ∃ k : ByteArray, k = ⟨(Zn.tr (Zn.fld F (txts R) 5)).toArray⟩ := ⟨_, rfl⟩
      obtain ⟨t11, ht11⟩ : ∃ k : ByteArray, k = ⟨(Zn.tr (Zn.fld F (txts R) 11)).toArray⟩ := ⟨_, rfl⟩
      obtain ⟨t13, ht13⟩ : ∃ k : ByteArray, k = ⟨(Zn.tr (Zn.fld F (txts R) 13)).toArray⟩ := ⟨_, rfl⟩
      have hfl : ∀ i, i < 15 → (Zn.fld F (txts R) i).length ≤ 44 := fun i hi => by rw [Zn.fld_len F HF1.out _ HSH.out i hi]; exact place_le F HF1.out i hi
      have HFL := Lib.hid hfl
      have HT0 := Lib.hid (tr_run k0 _ t0 hk0 ht0 (hfl 0 (by omega)))
      have HT1 := Lib.hid (tr_run k1 _ t1 hk1 ht1 (hfl 1 (by omega)))
      have HT3 := Lib.hid (tr_run k3 _ t3 hk3 ht3 (hfl 3 (by omega)))
      have HT5 := Lib.hid (tr_run k5 _ t5 hk5 ht5 (hfl 5 (by omega)))
      have HT11 := Lib.hid (tr_run k11 _ t11 hk11 ht11 (hfl 11 (by omega)))
      have HT13 := Lib.hid (tr_run k13 _ t13 hk13 ht13 (hfl 13 (by omega)))
      obtain ⟨al, hal⟩ : ∃ k : ByteArray, k = ⟨(Zn.comp F (txts R)).toArray⟩ := ⟨_, rfl⟩
      obtain ⟨dy, hdy⟩ : ∃ k : ByteArray, k = (if F = 1 then SB.extract 0 15 else SB.extract 13 28) := ⟨_, rfl⟩
      have hF13 : F = 1 ∨ F = 2 ∨ F = 3 := by have := HF1.out; omega
      have e02 : SA.extract 0 2 = k0 := by rw [hk0]; exact ext_fld F 0 0 0 2 HA0.out (by rcases hF13 with rfl | rfl | rfl <;> rfl)
      have e25 : SA.extract 2 5 = k1 := by rw [hk1]; exact ext_fld F 1 0 2 5 HA0.out (by rcases hF13 with rfl | rfl | rfl <;> rfl)
      have zdy : dy.size = 15 := by rw [hdy]; split <;> exact ext_size _ _ _ _ (by omega)
      have d6 : dy.extract 0 6 = k6 := by
        rw [hdy, hk6]
        rcases hF13 with rfl | rfl | rfl
        · rw [if_pos rfl, ext_ext _ _ _ _ _ (by omega)]; exact ext_fld 1 6 1 0 6 HB1.out rfl
        · rw [if_neg (by omega), ext_ext _ _ _ _ _ (by omega)]; exact ext_fld 2 6 1 13 19 HB1.out rfl
        · rw [if_neg (by omega), ext_ext _ _ _ _ _ (by omega)]; exact ext_fld 3 6 1 13 19 HB1.out rfl
      have d8 : dy.extract 7 8 = k8 := by
        rw [hdy, hk8]
        rcases hF13 with rfl | rfl | rfl
        · rw [if_pos rfl, ext_ext _ _ _ _ _ (by omega)]; exact ext_fld 1 8 1 7 8 HB1.out rfl
        · rw [if_neg (by omega), ext_ext _ _ _ _ _ (by omega)]; exact ext_fld 2 8 1 20 21 HB1.out rfl
        · rw [if_neg (by omega), ext_ext _ _ _ _ _ (by omega)]; exact ext_fld 3 8 1 20 21 HB1.out rfl
      have d9 : dy.extract 8 14 = k9 := by
        rw [hdy, hk9]
        rcases hF13 with rfl | rfl | rfl
        · rw [if_pos rfl, ext_ext _ _ _ _ _ (by omega)]; exact ext_fld 1 9 1 8 14 HB1.out rfl
        · rw [if_neg (by omega), ext_ext _ _ _ _ _ (by omega)]; exact ext_fld 2 9 1 21 27 HB1.out rfl
        · rw [if_neg (by omega), ext_ext _ _ _ _ _ (by omega)]; exact ext_fld 3 9 1 21 27 HB1.out rfl
      have b7 : Zn.fld F (txts R) 7 = [dy[6]'(by omega)] := by
        subst hdy
        rcases hF13 with rfl | rfl | rfl
        · simp only [if_pos]; rw [ext_get _ _ _ _ (by omega) (by omega)]; exact fld_byte 1 7 1 6 HB1.out rfl (by omega)
        · simp only [show ¬ (2 = 1) by omega, if_false]; rw [ext_get _ _ _ _ (by omega) (by omega)]; exact fld_byte 2 7 1 19 HB1.out rfl (by omega)
        · simp only [show ¬ (3 = 1) by omega, if_false]; rw [ext_get _ _ _ _ (by omega) (by omega)]; exact fld_byte 3 7 1 19 HB1.out rfl (by omega)
      have b10 : Zn.fld F (txts R) 10 = [dy[14]'(by omega)] := by
        subst hdy
        rcases hF13 with rfl | rfl | rfl
        · simp only [if_pos]; rw [ext_get _ _ _ _ (by omega) (by omega)]; exact fld_byte 1 10 1 14 HB1.out rfl (by omega)
        · simp only [show ¬ (2 = 1) by omega, if_false]; rw [ext_get _ _ _ _ (by omega) (by omega)]; exact fld_byte 2 10 1 27 HB1.out rfl (by omega)
        · simp only [show ¬ (3 = 1) by omega, if_false]; rw [ext_get _ _ _ _ (by omega) (by omega)]; exact fld_byte 3 10 1 27 HB1.out rfl (by omega)
      clear hfl
      have HK0 := Lib.hid hk0
      clear hk0
      have HK1 := Lib.hid hk1
      clear hk1
      have HK2 := Lib.hid hk2
      clear hk2
      have HK3 := Lib.hid hk3
      clear hk3
      have HK4 := Lib.hid hk4
      clear hk4
      have HK5 := Lib.hid hk5
      clear hk5
      have HK6 := Lib.hid hk6
      clear hk6
      have HK7 := Lib.hid hk7
      clear hk7
      have HK8 := Lib.hid hk8
      clear hk8
      have HK9 := Lib.hid hk9
      clear hk9
      have HK10 := Lib.hid hk10
      clear hk10
      have HK11 := Lib.hid hk11
      clear hk11
      have HK12 := Lib.hid hk12
      clear hk12
      have HK13 := Lib.hid hk13
      clear hk13
      have HK14 := Lib.hid hk14
      clear hk14
      have HTT0 := Lib.hid ht0
      clear ht0
      have HTT1 := Lib.hid ht1
      clear ht1
      have HTT3 := Lib.hid ht3
      clear ht3
      have HTT5 := Lib.hid ht5
      clear ht5
      have HTT11 := Lib.hid ht11
      clear ht11
      have HTT13 := Lib.hid ht13
      clear ht13
      have HAL := Lib.hid hal; have HDY := Lib.hid hdy; have HF13 := Lib.hid hF13
      have HB7 := Lib.hid b7; have HB10 := Lib.hid b10; have HD6 := Lib.hid d6; have HD8 := Lib.hid d8; have HD9 := Lib.hid d9
      clear hal hdy hF13 b7 b10 d6 d8 d9
      have HRZ0 := Lib.hid (And.intro HX2.out HB2.out)
      obtain ⟨g, hg⟩ : ∃ g, g = w2.heap.size := ⟨_, rfl⟩
      have HGG := Lib.hid hg
      clear hg
      have i2 : (2 : Int) ≤ (Zn.wLine F : Int) := by omega
      have i5 : (5 : Int) ≤ (Zn.wLine F : Int) := by omega
      go_cut [8] from 46 to 53 (fun p wc => p = .pointer (some ⟨g, 0, none⟩) ∧ RZ w g #[.int .i64 F, .string t0, .string t1, .string ⟨#[]⟩, .string ⟨#[]⟩, .string ⟨#[]⟩, .string ⟨#[]⟩, .string ⟨#[]⟩, .string ⟨#[]⟩, .string ⟨#[]⟩, .string ⟨#[]⟩, .string ⟨#[]⟩] wc)
      case first =>
        refine wp_region_any (by kernel_rfl) ?_
        (try (change wpAny _ _ _ _ _ _ _ (World.drew _)))
        (refine wpAny_take (i := 0) (v := ?_) (by simp only [List.getElem?_toArray, List.getElem?_cons_zero]; rfl) (by kernel_rfl) (by kernel_rfl) (by kernel_rfl) (by exact fun _ _ _ h => h) (Or.inl ⟨by rfl, ?_⟩) ?_; rotate_left 1; · (intro w; go_simp; (try with_reducible rfl)))
        (refine wpAny_take (i := 1) (v := ?_) (by simp only [List.getElem?_toArray, List.getElem?_cons_succ, List.getElem?_cons_zero]; rfl) (by kernel_rfl) (by kernel_rfl) (by kernel_rfl) (by exact fun _ _ _ h => h) (Or.inl ⟨by rfl, ?_⟩) ?_; rotate_left 1; · (intro w; go_simp; (try with_reducible rfl)))
        (refine wpAny_take (i := 2) (v := ?_) (by simp only [List.getElem?_toArray, List.getElem?_cons_succ, List.getElem?_cons_zero]; rfl) (by kernel_rfl) (by kernel_rfl) (by kernel_rfl) (by exact fun _ _ _ h => h) (Or.inl ⟨by rfl, ?_⟩) ?_; rotate_left 1; · (intro w; go_simp; (try with_reducible rfl)))
        (refine wpAny_take (i := 4) (v := ?_) (by simp only [List.getElem?_toArray, List.getElem?_cons_succ, List.getElem?_cons_zero]; rfl) (by kernel_rfl) (by kernel_rfl) (by kernel_rfl) (by exact fun _ _ _ h => h) (Or.inl ⟨by rfl, ?_⟩) ?_; rotate_left 1; · (intro w; go_simp; (try with_reducible rfl)))
        (refine wpAny_take (i := 5) (v := ?_) (by simp only [List.getElem?_toArray, List.getElem?_cons_succ, List.getElem?_cons_zero]; rfl) (by kernel_rfl) (by kernel_rfl) (by kernel_rfl) (by exact fun _ _ _ h => h) (Or.inl ⟨by rfl, ?_⟩) ?_; rotate_left 1; · (intro w; go_simp; (try with_reducible rfl)))
        refine wpAny_ready (rs := [3, 8]) (by kernel_rfl) (by simp) ?_
        refine AllReady.cons (by simp only [List.getElem?_toArray, List.getElem?_cons_succ, List.getElem?_cons_zero]; rfl) (fun K hK => ?_) ?_
        · (go_simp; go_at_call 37; refine (HT0.out _).mono ?_; rintro e w' ⟨rfl, rfl⟩)
          (first | (refine hK _ _ ?_; clear hK K) | skip)
          refine wpAny_ready (rs := [6, 8]) (by kernel_rfl) (by simp) ?_
          refine AllReady.cons (by simp only [List.getElem?_toArray, List.getElem?_cons_succ, List.getElem?_cons_zero]; rfl) (fun K hK => ?_) ?_
          · (go_simp; go_at_call 37; refine (HT1.out _).mono ?_; rintro e w' ⟨rfl, rfl⟩)
            (first | (refine hK _ _ ?_; clear hK K) | skip)
            (refine wpAny_take (i := 7) (v := ?_) (by simp only [List.getElem?_toArray, List.getElem?_cons_succ, List.getElem?_cons_zero]; rfl) (by kernel_rfl) (by kernel_rfl) (by kernel_rfl) (by exact fun _ _ _ h => h) (Or.inl ⟨by rfl, ?_⟩) ?_; rotate_left 1; · (intro w; go_simp; (try with_reducible rfl)))
            refine wpAny_ready (rs := [8]) (by kernel_rfl) (by simp) ?_
            refine AllReady.cons (by simp only [List.getElem?_toArray, List.getElem?_cons_succ, List.getElem?_cons_zero]; rfl) (fun K hK => ?_) ?_
            · go_simp
              (first | (refine hK _ _ ?_; clear hK K) | skip)
              refine wpAny_ready (rs := [9]) (by kernel_rfl) (by simp) ?_
              refine AllReady.cons (by simp only [List.getElem?_toArray, List.getElem?_cons_succ, List.getElem?_cons_zero]; rfl) (fun K hK => ?_) ?_
              · go_simp
                (first | (refine hK _ _ ?_; clear hK K) | skip)
                refine wpAny_done (by kernel_rfl) ?_ _
                go_wp2_with fail
                go_meet
                exact ⟨by rw [HGG.out], rz_new HRZ0.out.1 HRZ0.out.2 HGG.out _⟩
              exact AllReady.nil
            exact AllReady.nil
          refine AllReady.cons (by simp only [List.getElem?_toArray, List.getElem?_cons_succ, List.getElem?_cons_zero]; rfl) (fun K hK => ?_) ?_
          · go_simp
            (first | (refine hK _ _ ?_; clear hK K) | skip)
            refine wpAny_ready (rs := [6]) (by kernel_rfl) (by simp) ?_
            refine AllReady.cons (by simp only [List.getElem?_toArray, List.getElem?_cons_succ, List.getElem?_cons_zero]; rfl) (fun K hK => ?_) ?_
            · (go_simp; go_at_call 37; refine (HT1.out _).mono ?_; rintro e w' ⟨rfl, rfl⟩)
              (first | (refine hK _ _ ?_; clear hK K) | skip)
              (refine wpAny_take (i := 7) (v := ?_) (by simp only [List.getElem?_toArray, List.getElem?_cons_succ, List.getElem?_cons_zero]; rfl) (by kernel_rfl) (by kernel_rfl) (by kernel_rfl) (by exact fun _ _ _ h => h) (Or.inl ⟨by rfl, ?_⟩) ?_; rotate_left 1; · (intro w; go_simp; (try with_reducible rfl)))
              refine wpAny_ready (rs := [9]) (by kernel_rfl) (by simp) ?_
              refine AllReady.cons (by simp only [List.getElem?_toArray, List.getElem?_cons_succ, List.getElem?_cons_zero]; rfl) (fun K hK => ?_) ?_
              · go_simp
                (first | (refine hK _ _ ?_; clear hK K) | skip)
                refine wpAny_done (by kernel_rfl) ?_ _
                go_wp2_with fail
                go_meet
                exact ⟨by rw [HGG.out], rz_new HRZ0.out.1 HRZ0.out.2 HGG.out _⟩
              exact AllReady.nil
            exact AllReady.nil
          exact AllReady.nil
        refine AllReady.cons (by simp only [List.getElem?_toArray, List.getElem?_cons_succ, List.getElem?_cons_zero]; rfl) (fun K hK => ?_) ?_
        · go_simp
          (first | (refine hK _ _ ?_; clear hK K) | skip)
          refine wpAny_ready (rs := [3]) (by kernel_rfl) (by simp) ?_
          refine AllReady.cons (by simp only [List.getElem?_toArray, List.getElem?_cons_succ, List.getElem?_cons_zero]; rfl) (fun K hK => ?_) ?_
          · (go_simp; go_at_call 37; refine (HT0.out _).mono ?_; rintro e w' ⟨rfl, rfl⟩)
            (first | (refine hK _ _ ?_; clear hK K) | skip)
            refine wpAny_ready (rs := [6]) (by kernel_rfl) (by simp) ?_
            refine AllReady.cons (by simp only [List.getElem?_toArray, List.getElem?_cons_succ, List.getElem?_cons_zero]; rfl) (fun K hK => ?_) ?_
            · (go_simp; go_at_call 37; refine (HT1.out _).mono ?_; rintro e w' ⟨rfl, rfl⟩)
              (first | (refine hK _ _ ?_; clear hK K) | skip)
              (refine wpAny_take (i := 7) (v := ?_) (by simp only [List.getElem?_toArray, List.getElem?_cons_succ, List.getElem?_cons_zero]; rfl) (by kernel_rfl) (by kernel_rfl) (by kernel_rfl) (by exact fun _ _ _ h => h) (Or.inl ⟨by rfl, ?_⟩) ?_; rotate_left 1; · (intro w; go_simp; (try with_reducible rfl)))
              refine wpAny_ready (rs := [9]) (by kernel_rfl) (by simp) ?_
              refine AllReady.cons (by simp only [List.getElem?_toArray, List.getElem?_cons_succ, List.getElem?_cons_zero]; rfl) (fun K hK => ?_) ?_
              · go_simp
                (first | (refine hK _ _ ?_; clear hK K) | skip)
                refine wpAny_done (by kernel_rfl) ?_ _
                go_wp2_with fail
                go_meet
                exact ⟨by rw [HGG.out], rz_new HRZ0.out.1 HRZ0.out.2 HGG.out _⟩
              exact AllReady.nil
            exact AllReady.nil
          exact AllReady.nil
        exact AllReady.nil
      obtain ⟨rfl, hrz⟩ := hcut
      have HRZ := Lib.hid hrz
      clear hrz HRZ0 HX2 HB2 HLC2 e02 e25 i2 i5
      go_upto_block 2 with fail
      go_cut [9, 10, 11, 12, 13, 14] from 55 to 132 (fun v9 v10 v11 v12 v13 v14 w4 => v9 = .string k3 ∧ v10 = .string k4 ∧ v11 = .string dy ∧ v12 = .string k11 ∧ v13 = .string al ∧ v14 = .string k2 ∧ RZ w g #[.int .i64 F, .string t0, .string t1, .string ⟨#[]⟩, .string ⟨#[]⟩, .string ⟨#[]⟩, .string t5, .string ⟨#[]⟩, .string ⟨#[]⟩, .string ⟨#[]⟩, .string ⟨#[]⟩, .string t13] w4)
      case first =>
        have hF13 := HF13.out
        rcases hF13 with rfl | rfl | rfl
        · have hz := HRZ.out
          replace zA : SA.size = 30 := zA
          replace zB : SB.size = 30 := zB
          have s0 : SA.extract 5 14 = k3 := by rw [HK3.out]; exact ext_fld 1 3 0 5 14 HA0.out rfl
          have s1 : SA.extract 14 15 = k4 := by rw [HK4.out]; exact ext_fld 1 4 0 14 15 HA0.out rfl
          have s2 : SA.extract 15 30 = k11 := by rw [HK11.out]; exact ext_fld 1 11 0 15 30 HA0.out rfl
          have sdy : SB.extract 0 15 = dy := by rw [HDY.out]; rw [if_pos rfl]
          obtain ⟨b2, off2, e2, c2⟩ := (HA.out.later hz.2.2.1).cell 2 (by have := HLR.out; unfold Zn.nLines at this; rw [if_pos rfl] at this; omega)
          injection e2 with e2; injection e2 with e21 e22 _; subst e21; subst e22
          obtain ⟨SC, hSC⟩ : ∃ s, R[2]'(by have := HLR.out; unfold Zn.nLines at this; rw [if_pos rfl] at this; omega) = s := ⟨_, rfl⟩
          have hl2 : 2 < R.length := by have := HLR.out; unfold Zn.nLines at this; rw [if_pos rfl] at this; omega
          rw [hSC, show SC = k2 by
            rw [HK2.out]
            apply str_eq
            have zC : SC.data.toList.length = 30 := by rw [← hSC]; exact HSH.out.2 _ (List.mem_map.2 ⟨_, List.getElem_mem _, rfl⟩)
            unfold Zn.fld txts
            rw [show Zn.place 1 2 = (2, 0, 30) from rfl, List.getD_eq_getElem?_getD, List.getElem?_map, List.getElem?_eq_getElem hl2, hSC]
            show _ = (SC.data.toList.drop 0).take 30
            rw [List.drop_zero, List.take_of_length_le (by omega)]] at c2
          clear hSC
          clear hwl
          go_wp2_with fail
          go_quiet (fail)
          have HRZ2 := Lib.hid (hz.drewN nq)
          clear hz
          revert HRZ2
          generalize World.drewN _ nq = w5
          intro HRZ2
          clear s0 s1 s2 sdy c2
          have hz := HRZ2.out
          have y6 := hz.2.1.cell 6; have f6 := hz.2.1.free 6; have y11 := hz.2.1.cell 11; have f11 := hz.2.1.free 11
          go_upto_region 17 with fail
          have s0 : SB.extract 15 18 = k5 := by rw [HK5.out]; exact ext_fld 1 5 1 15 18 HB1.out rfl
          have s1 : SB.extract 18 29 = k13 := by rw [HK13.out]; exact ext_fld 1 13 1 18 29 HB1.out rfl
          refine wp_region_any (by kernel_rfl) ?_
          (try (change wpAny _ _ _ _ _ _ _ (World.drew _)))
          (refine wpAny_take (i := 0) (v := ?_) (by simp only [List.getElem?_toArray, List.getElem?_cons_zero]; rfl) (by kernel_rfl) (by kernel_rfl) (by kernel_rfl) (by exact fun _ _ _ h => h) (Or.inl ⟨by rfl, ?_⟩) ?_; rotate_left 1; · (intro w; go_simp; (try with_reducible rfl)))
          (refine wpAny_take (i := 1) (v := ?_) (by simp only [List.getElem?_toArray, List.getElem?_cons_succ, List.getElem?_cons_zero]; rfl) (by kernel_rfl) (by kernel_rfl) (by kernel_rfl) (by exact fun _ _ _ h => h) (Or.inl ⟨by rfl, ?_⟩) ?_; rotate_left 1; · (intro w; go_simp; (try with_reducible rfl)))
          (refine wpAny_take (i := 3) (v := ?_) (by simp only [List.getElem?_toArray, List.getElem?_cons_succ, List.getElem?_cons_zero]; rfl) (by kernel_rfl) (by kernel_rfl) (by kernel_rfl) (by exact fun _ _ _ h => h) (Or.inl ⟨by rfl, ?_⟩) ?_; rotate_left 1; · (intro w; go_simp; (try with_reducible rfl)))
          (refine wpAny_take (i := 4) (v := ?_) (by simp only [List.getElem?_toArray, List.getElem?_cons_succ, List.getElem?_cons_zero]; rfl) (by kernel_rfl) (by kernel_rfl) (by kernel_rfl) (by exact fun _ _ _ h => h) (Or.inl ⟨by rfl, ?_⟩) ?_; rotate_left 1; · (intro w; go_simp; (try with_reducible rfl)))
          refine wpAny_ready (rs := [2]) (by kernel_rfl) (by simp) ?_
          refine AllReady.cons (by simp only [List.getElem?_toArray, List.getElem?_cons_succ, List.getElem?_cons_zero]; rfl) (fun K hK => ?_) ?_
          · (go_simp; go_at_call 37; refine (HT5.out _).mono ?_; rintro e w' ⟨rfl, rfl⟩)
            (first | (refine hK _ _ ?_; clear hK K) | skip)
            (refine wpAny_take (i := 6) (v := ?_) (by simp only [List.getElem?_toArray, List.getElem?_cons_succ, List.getElem?_cons_zero]; rfl) (by kernel_rfl) (by kernel_rfl) (by kernel_rfl) (by exact fun _ _ _ h => h) (Or.inl ⟨by rfl, ?_⟩) ?_; rotate_left 1; · (intro w; go_simp; (try with_reducible rfl)))
            refine wpAny_ready (rs := [5]) (by kernel_rfl) (by simp) ?_
            refine AllReady.cons (by simp only [List.getElem?_toArray, List.getElem?_cons_succ, List.getElem?_cons_zero]; rfl) (fun K hK => ?_) ?_
            · (go_simp; go_at_call 37; refine (HT13.out _).mono ?_; rintro e w' ⟨rfl, rfl⟩)
              (first | (refine hK _ _ ?_; clear hK K) | skip)
              refine wpAny_ready (rs := [7]) (by kernel_rfl) (by simp) ?_
              refine AllReady.cons (by simp only [List.getElem?_toArray, List.getElem?_cons_succ, List.getElem?_cons_zero]; rfl) (fun K hK => ?_) ?_
              · go_simp
                (first | (refine hK _ _ ?_; clear hK K) | skip)
                (refine wpAny_take (i := 8) (v := ?_) (by simp only [List.getElem?_toArray, List.getElem?_cons_succ, List.getElem?_cons_zero]; rfl) (by kernel_rfl) (by kernel_rfl) (by kernel_rfl) (by exact fun _ _ _ h => h) (Or.inl ⟨by rfl, ?_⟩) ?_; rotate_left 1; · (intro w; go_simp; (try with_reducible rfl)))
                refine wpAny_ready (rs := [9]) (by kernel_rfl) (by simp) ?_
                refine AllReady.cons (by simp only [List.getElem?_toArray, List.getElem?_cons_succ, List.getElem?_cons_zero]; rfl) (fun K hK => ?_) ?_
                · go_simp
                  (first | (refine hK _ _ ?_; clear hK K) | skip)
                  refine wpAny_done (by kernel_rfl) ?_ _
                  have hz3 : RZ w g #[.int .i64 ((1 : Nat) : Int), .string t0, .string t1, .string ⟨#[]⟩, .string ⟨#[]⟩, .string ⟨#[]⟩, .string t5, .string ⟨#[]⟩, .string ⟨#[]⟩, .string ⟨#[]⟩, .string ⟨#[]⟩, .string t13] (World.drew ((w5.setCell ⟨g, 6, none⟩ (.string t5)).setCell ⟨g, 11, none⟩ (.string t13))) := ((HRZ2.out.set 6 (.string t5)).set 11 (.string t13)).drew
                  clear s0 s1 y6 f6 y11 f11 hz
                  generalize World.drew ((w5.setCell ⟨g, 6, none⟩ (.string t5)).setCell ⟨g, 11, none⟩ (.string t13)) = w6 at hz3 ⊢
                  have HRZ3 := Lib.hid hz3
                  clear hz3
                  have p1 : (SA.extract 5 30).size = 25 := ext_size _ _ _ _ (by omega)
                  have p2 : (SB.extract 0 7).size = 7 := ext_size _ _ _ _ (by omega)
                  have p3 : (SB.extract 8 15).size = 7 := ext_size _ _ _ _ (by omega)
                  have p4 : (SB.extract 18 29).size = 11 := ext_size _ _ _ _ (by omega)
                  have q1 : (SA.extract 5 30 ++ SB.extract 0 7).size = 32 := by rw [ByteArray.size_append, p1, p2]
                  have q2 : (SA.extract 5 30 ++ SB.extract 0 7 ++ SB.extract 8 15).size = 39 := by rw [ByteArray.size_append, q1, p3]
                  have q3 : SA.extract 5 30 ++ SB.extract 0 7 ++ SB.extract 8 15 ++ SB.extract 18 29 = al := by
                    rw [HAL.out, ext_of (str_of SA), ext_of (str_of SB), ext_of (str_of SB), ext_of (str_of SB), str_add, str_add, str_add]
                    exact str_eq (comp_one HA0.out HB1.out (by omega))
                  go_wp2_with fail
                  go_quiet (fail)
                  go_wp2_with fail
                  go_meet
                  exact ⟨rfl, rfl, rfl, rfl, rfl, rfl, HRZ3.out.drewN _⟩
                exact AllReady.nil
              exact AllReady.nil
            exact AllReady.nil
          exact AllReady.nil
        · have hz := HRZ.out
          replace zA : SA.size = 36 := zA
          replace zB : SB.size = 36 := zB
          have s0 : SB.extract 0 9 = k3 := by rw [HK3.out]; exact ext_fld 2 3 1 0 9 HB1.out rfl
          have s1 : SB.extract 9 10 = k4 := by rw [HK4.out]; exact ext_fld 2 4 1 9 10 HB1.out rfl
          have s2 : SB.extract 28 35 = k11 := by rw [HK11.out]; exact ext_fld 2 11 1 28 35 HB1.out rfl
          have s3 : SA.extract 5 36 = k2 := by rw [HK2.out]; exact ext_fld 2 2 0 5 36 HA0.out rfl
          have sdy : SB.extract 13 28 = dy := by rw [HDY.out]; rw [if_neg (by omega)]
          clear hwl
          go_wp2_with fail
          go_quiet (fail)
          have HRZ2 := Lib.hid (hz.drewN nq)
          clear hz
          revert HRZ2
          generalize World.drewN _ nq = w5
          intro HRZ2
          clear s0 s1 s2 s3 sdy
          have hz := HRZ2.out
          have y6 := hz.2.1.cell 6; have f6 := hz.2.1.free 6; have y11 := hz.2.1.cell 11; have f11 := hz.2.1.free 11
          go_upto_region 21 with fail
          have s0 : SB.extract 10 13 = k5 := by rw [HK5.out]; exact ext_fld 2 5 1 10 13 HB1.out rfl
          have et : t13 = ⟨#[]⟩ := by rw [HTT13.out]; rfl
          have p1 : (SB.extract 0 10).size = 10 := ext_size _ _ _ _ (by omega)
          have p2 : (SB.extract 13 20).size = 7 := ext_size _ _ _ _ (by omega)
          have p3 : (SB.extract 21 35).size = 14 := ext_size _ _ _ _ (by omega)
          have q1 : (SB.extract 0 10 ++ SB.extract 13 20).size = 17 := by rw [ByteArray.size_append, p1, p2]
          have q3 : SB.extract 0 10 ++ SB.extract 13 20 ++ SB.extract 21 35 = al := by
            rw [HAL.out, ext_of (str_of SB), ext_of (str_of SB), ext_of (str_of SB), str_add, str_add]
            exact str_eq (comp_two 2 (by omega) HB1.out)
          have ETT := Lib.hid et
          clear et
          refine wp_region_any (by kernel_rfl) ?_
          (try (change wpAny _ _ _ _ _ _ _ (World.drew _)))
          (refine wpAny_take (i := 0) (v := ?_) (by simp only [List.getElem?_toArray, List.getElem?_cons_zero]; rfl) (by kernel_rfl) (by kernel_rfl) (by kernel_rfl) (by exact fun _ _ _ h => h) (Or.inl ⟨by rfl, ?_⟩) ?_; rotate_left 1; · (intro w; go_simp; (try with_reducible rfl)))
          (refine wpAny_take (i := 1) (v := ?_) (by simp only [List.getElem?_toArray, List.getElem?_cons_succ, List.getElem?_cons_zero]; rfl) (by kernel_rfl) (by kernel_rfl) (by kernel_rfl) (by exact fun _ _ _ h => h) (Or.inl ⟨by rfl, ?_⟩) ?_; rotate_left 1; · (intro w; go_simp; (try with_reducible rfl)))
          (refine wpAny_take (i := 3) (v := ?_) (by simp only [List.getElem?_toArray, List.getElem?_cons_succ, List.getElem?_cons_zero]; rfl) (by kernel_rfl) (by kernel_rfl) (by kernel_rfl) (by exact fun _ _ _ h => h) (Or.inl ⟨by rfl, ?_⟩) ?_; rotate_left 1; · (intro w; go_simp; (try with_reducible rfl)))
          (refine wpAny_take (i := 4) (v := ?_) (by simp only [List.getElem?_toArray, List.getElem?_cons_succ, List.getElem?_cons_zero]; rfl) (by kernel_rfl) (by kernel_rfl) (by kernel_rfl) (by exact fun _ _ _ h => h) (Or.inl ⟨by rfl, ?_⟩) ?_; rotate_left 1; · (intro w; go_simp; (try with_reducible rfl)))
          (refine wpAny_take (i := 5) (v := ?_) (by simp only [List.getElem?_toArray, List.getElem?_cons_succ, List.getElem?_cons_zero]; rfl) (by kernel_rfl) (by kernel_rfl) (by kernel_rfl) (by exact fun _ _ _ h => h) (Or.inl ⟨by rfl, ?_⟩) ?_; rotate_left 1; · (intro w; go_simp; (try with_reducible rfl)))
          (refine wpAny_take (i := 6) (v := ?_) (by simp only [List.getElem?_toArray, List.getElem?_cons_succ, List.getElem?_cons_zero]; rfl) (by kernel_rfl) (by kernel_rfl) (by kernel_rfl) (by exact fun _ _ _ h => h) (Or.inl ⟨by rfl, ?_⟩) ?_; rotate_left 1; · (intro w; go_simp; (try with_reducible rfl)))
          (refine wpAny_take (i := 7) (v := ?_) (by simp only [List.getElem?_toArray, List.getElem?_cons_succ, List.getElem?_cons_zero]; rfl) (by kernel_rfl) (by kernel_rfl) (by kernel_rfl) (by exact fun _ _ _ h => h) (Or.inl ⟨by rfl, ?_⟩) ?_; rotate_left 1; · (intro w; go_simp; (try with_reducible rfl)))
          (refine wpAny_take (i := 8) (v := ?_) (by simp only [List.getElem?_toArray, List.getElem?_cons_succ, List.getElem?_cons_zero]; rfl) (by kernel_rfl) (by kernel_rfl) (by kernel_rfl) (by exact fun _ _ _ h => h) (Or.inl ⟨by rfl, ?_⟩) ?_; rotate_left 1; · (intro w; go_simp; (try with_reducible rfl)))
          (refine wpAny_take (i := 9) (v := ?_) (by simp only [List.getElem?_toArray, List.getElem?_cons_succ, List.getElem?_cons_zero]; rfl) (by kernel_rfl) (by kernel_rfl) (by kernel_rfl) (by exact fun _ _ _ h => h) (Or.inl ⟨by rfl, ?_⟩) ?_; rotate_left 1; · (intro w; go_simp; (try with_reducible rfl)))
          (refine wpAny_take (i := 10) (v := ?_) (by simp only [List.getElem?_toArray, List.getElem?_cons_succ, List.getElem?_cons_zero]; rfl) (by kernel_rfl) (by kernel_rfl) (by kernel_rfl) (by exact fun _ _ _ h => h) (Or.inl ⟨by rfl, ?_⟩) ?_; rotate_left 1; · (intro w; go_simp; (try with_reducible rfl)))
          refine wpAny_ready (rs := [2]) (by kernel_rfl) (by simp) ?_
          refine AllReady.cons (by simp only [List.getElem?_toArray, List.getElem?_cons_succ, List.getElem?_cons_zero]; rfl) (fun K hK => ?_) ?_
          · (go_simp; go_at_call 37; refine (HT5.out _).mono ?_; rintro e w' ⟨rfl, rfl⟩)
            (first | (refine hK _ _ ?_; clear hK K) | skip)
            (refine wpAny_take (i := 11) (v := ?_) (by simp only [List.getElem?_toArray, List.getElem?_cons_succ, List.getElem?_cons_zero]; rfl) (by kernel_rfl) (by kernel_rfl) (by kernel_rfl) (by exact fun _ _ _ h => h) (Or.inl ⟨by rfl, ?_⟩) ?_; rotate_left 1; · (intro w; go_simp; (try with_reducible rfl)))
            refine wpAny_ready (rs := [12]) (by kernel_rfl) (by simp) ?_
            refine AllReady.cons (by simp only [List.getElem?_toArray, List.getElem?_cons_succ, List.getElem?_cons_zero]; rfl) (fun K hK => ?_) ?_
            · go_simp
              (first | (refine hK _ _ ?_; clear hK K) | skip)
              (refine wpAny_take (i := 13) (v := ?_) (by simp only [List.getElem?_toArray, List.getElem?_cons_succ, List.getElem?_cons_zero]; rfl) (by kernel_rfl) (by kernel_rfl) (by kernel_rfl) (by exact fun _ _ _ h => h) (Or.inl ⟨by rfl, ?_⟩) ?_; rotate_left 1; · (intro w; go_simp; (try with_reducible rfl)))
              refine wpAny_done (by kernel_rfl) ?_ _
              have hz3 : RZ w g #[.int .i64 ((2 : Nat) : Int), .string t0, .string t1, .string ⟨#[]⟩, .string ⟨#[]⟩, .string ⟨#[]⟩, .string t5, .string ⟨#[]⟩, .string ⟨#[]⟩, .string ⟨#[]⟩, .string ⟨#[]⟩, .string t13] (World.drew (w5.setCell ⟨g, 6, none⟩ (.string t5))) := by rw [ETT.out]; exact (HRZ2.out.set 6 (.string t5)).drew
              clear s0 y6 f6 y11 f11 hz p1 p2 p3 q1 q3
              generalize World.drew (w5.setCell ⟨g, 6, none⟩ (.string t5)) = w6 at hz3 ⊢
              have HRZ3 := Lib.hid hz3
              clear hz3
              go_wp2_with fail
              go_meet
              exact ⟨rfl, rfl, rfl, rfl, rfl, rfl, HRZ3.out⟩
            exact AllReady.nil
          exact AllReady.nil
        · have hz := HRZ.out
          replace zA : SA.size = 44 := zA
          replace zB : SB.size = 44 := zB
          have s0 : SB.extract 0 9 = k3 := by rw [HK3.out]; exact ext_fld 3 3 1 0 9 HB1.out rfl
          have s1 : SB.extract 9 10 = k4 := by rw [HK4.out]; exact ext_fld 3 4 1 9 10 HB1.out rfl
          have s2 : SB.extract 28 42 = k11 := by rw [HK11.out]; exact ext_fld 3 11 1 28 42 HB1.out rfl
          have s3 : SA.extract 5 44 = k2 := by rw [HK2.out]; exact ext_fld 3 2 0 5 44 HA0.out rfl
          have sdy : SB.extract 13 28 = dy := by rw [HDY.out]; rw [if_neg (by omega)]
          clear hwl
          go_wp2_with fail
          go_quiet (fail)
          have HRZ2 := Lib.hid (hz.drewN nq)
          clear hz
          revert HRZ2
          generalize World.drewN _ nq = w5
          intro HRZ2
          clear s0 s1 s2 s3 sdy
          have hz := HRZ2.out
          have y6 := hz.2.1.cell 6; have f6 := hz.2.1.free 6; have y11 := hz.2.1.cell 11; have f11 := hz.2.1.free 11
          go_upto_region 14 with fail
          have s0 : SB.extract 10 13 = k5 := by rw [HK5.out]; exact ext_fld 3 5 1 10 13 HB1.out rfl
          have et : t13 = ⟨#[]⟩ := by rw [HTT13.out]; rfl
          have p1 : (SB.extract 0 10).size = 10 := ext_size _ _ _ _ (by omega)
          have p2 : (SB.extract 13 20).size = 7 := ext_size _ _ _ _ (by omega)
          have p3 : (SB.extract 21 43).size = 22 := ext_size _ _ _ _ (by omega)
          have q1 : (SB.extract 0 10 ++ SB.extract 13 20).size = 17 := by rw [ByteArray.size_append, p1, p2]
          have q3 : SB.extract 0 10 ++ SB.extract 13 20 ++ SB.extract 21 43 = al := by
            rw [HAL.out, ext_of (str_of SB), ext_of (str_of SB), ext_of (str_of SB), str_add, str_add]
            exact str_eq (comp_two 3 (by omega) HB1.out)
          have ETT := Lib.hid et
          clear et
          refine wp_region_any (by kernel_rfl) ?_
          (try (change wpAny _ _ _ _ _ _ _ (World.drew _)))
          (refine wpAny_take (i := 0) (v := ?_) (by simp only [List.getElem?_toArray, List.getElem?_cons_zero]; rfl) (by kernel_rfl) (by kernel_rfl) (by kernel_rfl) (by exact fun _ _ _ h => h) (Or.inl ⟨by rfl, ?_⟩) ?_; rotate_left 1; · (intro w; go_simp; (try with_reducible rfl)))
          (refine wpAny_take (i := 1) (v := ?_) (by simp only [List.getElem?_toArray, List.getElem?_cons_succ, List.getElem?_cons_zero]; rfl) (by kernel_rfl) (by kernel_rfl) (by kernel_rfl) (by exact fun _ _ _ h => h) (Or.inl ⟨by rfl, ?_⟩) ?_; rotate_left 1; · (intro w; go_simp; (try with_reducible rfl)))
          (refine wpAny_take (i := 3) (v := ?_) (by simp only [List.getElem?_toArray, List.getElem?_cons_succ, List.getElem?_cons_zero]; rfl) (by kernel_rfl) (by kernel_rfl) (by kernel_rfl) (by exact fun _ _ _ h => h) (Or.inl ⟨by rfl, ?_⟩) ?_; rotate_left 1; · (intro w; go_simp; (try with_reducible rfl)))
          (refine wpAny_take (i := 4) (v := ?_) (by simp only [List.getElem?_toArray, List.getElem?_cons_succ, List.getElem?_cons_zero]; rfl) (by kernel_rfl) (by kernel_rfl) (by kernel_rfl) (by exact fun _ _ _ h => h) (Or.inl ⟨by rfl, ?_⟩) ?_; rotate_left 1; · (intro w; go_simp; (try with_reducible rfl)))
          (refine wpAny_take (i := 5) (v := ?_) (by simp only [List.getElem?_toArray, List.getElem?_cons_succ, List.getElem?_cons_zero]; rfl) (by kernel_rfl) (by kernel_rfl) (by kernel_rfl) (by exact fun _ _ _ h => h) (Or.inl ⟨by rfl, ?_⟩) ?_; rotate_left 1; · (intro w; go_simp; (try with_reducible rfl)))
          (refine wpAny_take (i := 6) (v := ?_) (by simp only [List.getElem?_toArray, List.getElem?_cons_succ, List.getElem?_cons_zero]; rfl) (by kernel_rfl) (by kernel_rfl) (by kernel_rfl) (by exact fun _ _ _ h => h) (Or.inl ⟨by rfl, ?_⟩) ?_; rotate_left 1; · (intro w; go_simp; (try with_reducible rfl)))
          (refine wpAny_take (i := 7) (v := ?_) (by simp only [List.getElem?_toArray, List.getElem?_cons_succ, List.getElem?_cons_zero]; rfl) (by kernel_rfl) (by kernel_rfl) (by kernel_rfl) (by exact fun _ _ _ h => h) (Or.inl ⟨by rfl, ?_⟩) ?_; rotate_left 1; · (intro w; go_simp; (try with_reducible rfl)))
          (refine wpAny_take (i := 8) (v := ?_) (by simp only [List.getElem?_toArray, List.getElem?_cons_succ, List.getElem?_cons_zero]; rfl) (by kernel_rfl) (by kernel_rfl) (by kernel_rfl) (by exact fun _ _ _ h => h) (Or.inl ⟨by rfl, ?_⟩) ?_; rotate_left 1; · (intro w; go_simp; (try with_reducible rfl)))
          (refine wpAny_take (i := 9) (v := ?_) (by simp only [List.getElem?_toArray, List.getElem?_cons_succ, List.getElem?_cons_zero]; rfl) (by kernel_rfl) (by kernel_rfl) (by kernel_rfl) (by exact fun _ _ _ h => h) (Or.inl ⟨by rfl, ?_⟩) ?_; rotate_left 1; · (intro w; go_simp; (try with_reducible rfl)))
          (refine wpAny_take (i := 10) (v := ?_) (by simp only [List.getElem?_toArray, List.getElem?_cons_succ, List.getElem?_cons_zero]; rfl) (by kernel_rfl) (by kernel_rfl) (by kernel_rfl) (by exact fun _ _ _ h => h) (Or.inl ⟨by rfl, ?_⟩) ?_; rotate_left 1; · (intro w; go_simp; (try with_reducible rfl)))
          refine wpAny_ready (rs := [2]) (by kernel_rfl) (by simp) ?_
          refine AllReady.cons (by simp only [List.getElem?_toArray, List.getElem?_cons_succ, List.getElem?_cons_zero]; rfl) (fun K hK => ?_) ?_
          · (go_simp; go_at_call 37; refine (HT5.out _).mono ?_; rintro e w' ⟨rfl, rfl⟩)
            (first | (refine hK _ _ ?_; clear hK K) | skip)
            (refine wpAny_take (i := 11) (v := ?_) (by simp only [List.getElem?_toArray, List.getElem?_cons_succ, List.getElem?_cons_zero]; rfl) (by kernel_rfl) (by kernel_rfl) (by kernel_rfl) (by exact fun _ _ _ h => h) (Or.inl ⟨by rfl, ?_⟩) ?_; rotate_left 1; · (intro w; go_simp; (try with_reducible rfl)))
            refine wpAny_ready (rs := [12]) (by kernel_rfl) (by simp) ?_
            refine AllReady.cons (by simp only [List.getElem?_toArray, List.getElem?_cons_succ, List.getElem?_cons_zero]; rfl) (fun K hK => ?_) ?_
            · go_simp
              (first | (refine hK _ _ ?_; clear hK K) | skip)
              (refine wpAny_take (i := 13) (v := ?_) (by simp only [List.getElem?_toArray, List.getElem?_cons_succ, List.getElem?_cons_zero]; rfl) (by kernel_rfl) (by kernel_rfl) (by kernel_rfl) (by exact fun _ _ _ h => h) (Or.inl ⟨by rfl, ?_⟩) ?_; rotate_left 1; · (intro w; go_simp; (try with_reducible rfl)))
              refine wpAny_done (by kernel_rfl) ?_ _
              have hz3 : RZ w g #[.int .i64 ((3 : Nat) : Int), .string t0, .string t1, .string ⟨#[]⟩, .string ⟨#[]⟩, .string ⟨#[]⟩, .string t5, .string ⟨#[]⟩, .string ⟨#[]⟩, .string ⟨#[]⟩, .string ⟨#[]⟩, .string t13] (World.drew (w5.setCell ⟨g, 6, none⟩ (.string t5))) := by rw [ETT.out]; exact (HRZ2.out.set 6 (.string t5)).drew
              clear s0 y6 f6 y11 f11 hz p1 p2 p3 q1 q3
              generalize World.drew (w5.setCell ⟨g, 6, none⟩ (.string t5)) = w6 at hz3 ⊢
              have HRZ3 := Lib.hid hz3
              clear hz3
              go_wp2_with fail
              go_meet
              exact ⟨rfl, rfl, rfl, rfl, rfl, rfl, HRZ3.out⟩
            exact AllReady.nil
          exact AllReady.nil
      obtain ⟨rfl, rfl, rfl, rfl, rfl, rfl, hrz⟩ := hcut
      have HRZ3 := Lib.hid hrz
      have HZB := Lib.hid zB
      clear hrz HRZ zA zB hwl
      have d6 := HD6.out; have d8 := HD8.out; have d9 := HD9.out
      have hz := HRZ3.out
      have y5 := hz.2.1.cell 5; have f5 := hz.2.1.free 5; have y7 := hz.2.1.cell 7; have f7 := hz.2.1.free 7; have y8 := hz.2.1.cell 8; have f8 := hz.2.1.free 8
      have y9 := hz.2.1.cell 9; have f9 := hz.2.1.free 9; have y10 := hz.2.1.cell 10; have f10 := hz.2.1.free 10
      clear hz
      go_upto_region 22 with fail
      refine wp_region_any (by kernel_rfl) ?_
      (try (change wpAny _ _ _ _ _ _ _ (World.drew _)))
      (refine wpAny_take (i := 0) (v := ?_) (by simp only [List.getElem?_toArray, List.getElem?_cons_zero]; rfl) (by kernel_rfl) (by kernel_rfl) (by kernel_rfl) (by exact fun _ _ _ h => h) (Or.inl ⟨by rfl, ?_⟩) ?_; rotate_left 1; · (intro w; go_simp; (try with_reducible rfl)))
      (refine wpAny_take (i := 2) (v := ?_) (by simp only [List.getElem?_toArray, List.getElem?_cons_succ, List.getElem?_cons_zero]; rfl) (by kernel_rfl) (by kernel_rfl) (by kernel_rfl) (by exact fun _ _ _ h => h) (Or.inl ⟨by rfl, ?_⟩) ?_; rotate_left 1; · (intro w; go_simp; (try with_reducible rfl)))
      (refine wpAny_take (i := 3) (v := ?_) (by simp only [List.getElem?_toArray, List.getElem?_cons_succ, List.getElem?_cons_zero]; rfl) (by kernel_rfl) (by kernel_rfl) (by kernel_rfl) (by exact fun _ _ _ h => h) (Or.inl ⟨by rfl, ?_⟩) ?_; rotate_left 1; · (intro w; go_simp; (try with_reducible rfl)))
      (refine wpAny_take (i := 4) (v := ?_) (by simp only [List.getElem?_toArray, List.getElem?_cons_succ, List.getElem?_cons_zero]; rfl) (by kernel_rfl) (by kernel_rfl) (by kernel_rfl) (by exact fun _ _ _ h => h) (Or.inl ⟨by rfl, ?_⟩) ?_; rotate_left 1; · (intro w; go_simp; (try with_reducible rfl)))
      (refine wpAny_take (i := 5) (v := ?_) (by simp only [List.getElem?_toArray, List.getElem?_cons_succ, List.getElem?_cons_zero]; rfl) (by kernel_rfl) (by kernel_rfl) (by kernel_rfl) (by exact fun _ _ _ h => h) (Or.inl ⟨by rfl, ?_⟩) ?_; rotate_left 1; · (intro w; go_simp; (try with_reducible rfl)))
      (refine wpAny_take (i := 6) (v := ?_) (by simp only [List.getElem?_toArray, List.getElem?_cons_succ, List.getElem?_cons_zero]; rfl) (by kernel_rfl) (by kernel_rfl) (by kernel_rfl) (by exact fun _ _ _ h => h) (Or.inl ⟨by rfl, ?_⟩) ?_; rotate_left 1; · (intro w; go_simp; (try with_reducible rfl)))
      (refine wpAny_take (i := 7) (v := ?_) (by simp only [List.getElem?_toArray, List.getElem?_cons_succ, List.getElem?_cons_zero]; rfl) (by kernel_rfl) (by kernel_rfl) (by kernel_rfl) (by exact fun _ _ _ h => h) (Or.inl ⟨by rfl, ?_⟩) ?_; rotate_left 1; · (intro w; go_simp; (try with_reducible rfl)))
      (refine wpAny_take (i := 8) (v := ?_) (by simp only [List.getElem?_toArray, List.getElem?_cons_succ, List.getElem?_cons_zero]; rfl) (by kernel_rfl) (by kernel_rfl) (by kernel_rfl) (by exact fun _ _ _ h => h) (Or.inl ⟨by rfl, ?_⟩) ?_; rotate_left 1; · (intro w; go_simp; (try with_reducible rfl)))
      refine wpAny_ready (rs := [1]) (by kernel_rfl) (by simp) ?_
      refine AllReady.cons (by simp only [List.getElem?_toArray, List.getElem?_cons_succ, List.getElem?_cons_zero]; rfl) (fun K hK => ?_) ?_
      · (go_simp; go_at_call 37; refine (HT3.out _).mono ?_; rintro e w' ⟨rfl, rfl⟩)
        (first | (refine hK _ _ ?_; clear hK K) | skip)
        (refine wpAny_take (i := 10) (v := ?_) (by simp only [List.getElem?_toArray, List.getElem?_cons_succ, List.getElem?_cons_zero]; rfl) (by kernel_rfl) (by kernel_rfl) (by kernel_rfl) (by exact fun _ _ _ h => h) (Or.inl ⟨by rfl, ?_⟩) ?_; rotate_left 1; · (intro w; go_simp; (try with_reducible rfl)))
        refine wpAny_ready (rs := [9]) (by kernel_rfl) (by simp) ?_
        refine AllReady.cons (by simp only [List.getElem?_toArray, List.getElem?_cons_succ, List.getElem?_cons_zero]; rfl) (fun K hK => ?_) ?_
        · (go_simp; go_at_call 37; refine (HT11.out _).mono ?_; rintro e w' ⟨rfl, rfl⟩)
          (first | (refine hK _ _ ?_; clear hK K) | skip)
          refine wpAny_ready (rs := [11]) (by kernel_rfl) (by simp) ?_
          refine AllReady.cons (by simp only [List.getElem?_toArray, List.getElem?_cons_succ, List.getElem?_cons_zero]; rfl) (fun K hK => ?_) ?_
          · go_simp
            (first | (refine hK _ _ ?_; clear hK K) | skip)
            (refine wpAny_take (i := 12) (v := ?_) (by simp only [List.getElem?_toArray, List.getElem?_cons_succ, List.getElem?_cons_zero]; rfl) (by kernel_rfl) (by kernel_rfl) (by kernel_rfl) (by exact fun _ _ _ h => h) (Or.inl ⟨by rfl, ?_⟩) ?_; rotate_left 1; · (intro w; go_simp; (try with_reducible rfl)))
            refine wpAny_ready (rs := [13]) (by kernel_rfl) (by simp) ?_
            refine AllReady.cons (by simp only [List.getElem?_toArray, List.getElem?_cons_succ, List.getElem?_cons_zero]; rfl) (fun K hK => ?_) ?_
            · go_simp
              (first | (refine hK _ _ ?_; clear hK K) | skip)
              (refine wpAny_take (i := 14) (v := ?_) (by simp only [List.getElem?_toArray, List.getElem?_cons_succ, List.getElem?_cons_zero]; rfl) (by kernel_rfl) (by kernel_rfl) (by kernel_rfl) (by exact fun _ _ _ h => h) (Or.inl ⟨by rfl, ?_⟩) ?_; rotate_left 1; · (intro w; go_simp; (try with_reducible rfl)))
              refine wpAny_ready (rs := [15]) (by kernel_rfl) (by simp) ?_
              refine AllReady.cons (by simp only [List.getElem?_toArray, List.getElem?_cons_succ, List.getElem?_cons_zero]; rfl) (fun K hK => ?_) ?_
              · go_simp
                (first | (refine hK _ _ ?_; clear hK K) | skip)
                (refine wpAny_take (i := 16) (v := ?_) (by simp only [List.getElem?_toArray, List.getElem?_cons_succ, List.getElem?_cons_zero]; rfl) (by kernel_rfl) (by kernel_rfl) (by kernel_rfl) (by exact fun _ _ _ h => h) (Or.inl ⟨by rfl, ?_⟩) ?_; rotate_left 1; · (intro w; go_simp; (try with_reducible rfl)))
                refine wpAny_ready (rs := [17]) (by kernel_rfl) (by simp) ?_
                refine AllReady.cons (by simp only [List.getElem?_toArray, List.getElem?_cons_succ, List.getElem?_cons_zero]; rfl) (fun K hK => ?_) ?_
                · go_simp
                  (first | (refine hK _ _ ?_; clear hK K) | skip)
                  (refine wpAny_take (i := 18) (v := ?_) (by simp only [List.getElem?_toArray, List.getElem?_cons_succ, List.getElem?_cons_zero]; rfl) (by kernel_rfl) (by kernel_rfl) (by kernel_rfl) (by exact fun _ _ _ h => h) (Or.inl ⟨by rfl, ?_⟩) ?_; rotate_left 1; · (intro w; go_simp; (try with_reducible rfl)))
                  refine wpAny_ready (rs := [19]) (by kernel_rfl) (by simp) ?_
                  refine AllReady.cons (by simp only [List.getElem?_toArray, List.getElem?_cons_succ, List.getElem?_cons_zero]; rfl) (fun K hK => ?_) ?_
                  · go_simp
                    (first | (refine hK _ _ ?_; clear hK K) | skip)
                    refine wpAny_done (by kernel_rfl) ?_ _
                    have hz3 : RZ w g #[.int .i64 F, .string t0, .string t1, .string ⟨#[]⟩, .string ⟨#[]⟩, .string t3, .string t5, .string k6, .string k8, .string k9, .string t11, .string t13] (World.drew (((((wc.setCell ⟨g, 5, none⟩ (.string t3)).setCell ⟨g, 7, none⟩ (.string k6)).setCell ⟨g, 8, none⟩ (.string k8)).setCell ⟨g, 9, none⟩ (.string k9)).setCell ⟨g, 10, none⟩ (.string t11))) := (((((HRZ3.out.set 5 (.string t3)).set 7 (.string k6)).set 8 (.string k8)).set 9 (.string k9)).set 10 (.string t11)).drew
                    clear d6 d8 d9 y5 f5 y7 f7 y8 f8 y9 f9 y10 f10
                    generalize World.drew (((((wc.setCell ⟨g, 5, none⟩ (.string t3)).setCell ⟨g, 7, none⟩ (.string k6)).setCell ⟨g, 8, none⟩ (.string k8)).setCell ⟨g, 9, none⟩ (.string k9)).setCell ⟨g, 10, none⟩ (.string t11)) = w6 at hz3 ⊢
                    have HRZ4 := Lib.hid hz3
                    clear hz3
                    have hl4 : (Zn.fld F (txts R) 4).length = 1 := by
                      rw [Zn.fld_len F HF1.out _ HSH.out 4 (by omega)]
                      rcases HF13.out with h | h | h <;> rw [h] <;> rfl
                    have z4 : k4.size = 1 := by rw [HK4.out, str_size]; exact hl4
                    have b4 : Zn.fld F (txts R) 4 = [k4[0]'(by omega)] := one_byte HK4.out hl4 _
                    have hv := fun i => Zn.fld_valid F _ HV.out i
                    obtain ⟨d4, hd4⟩ : ∃ q, decide (Zn.fld F (txts R) 4 = [60]) = q := ⟨_, rfl⟩
                    obtain ⟨r3, hr3⟩ : ∃ q, decide ([k4[0]'(by omega)] = Zn.dg (Zn.fld F (txts R) 3)) = q := ⟨_, rfl⟩
                    obtain ⟨r6, hr6⟩ : ∃ q, decide ([dy[6]'(by omega)] = Zn.dg (Zn.fld F (txts R) 6)) = q := ⟨_, rfl⟩
                    obtain ⟨r9, hr9⟩ : ∃ q, decide ([dy[14]'(by omega)] = Zn.dg (Zn.fld F (txts R) 9)) = q := ⟨_, rfl⟩
                    have hR3 := fun W => rright k3 _ (k4[0]'(by omega)) HK3.out (hv 3) (Nat.le_trans (HFL.out 3 (by omega)) (by omega)) W
                    have hR6 := fun W => rright k6 _ (dy[6]'(by omega)) HK6.out (hv 6) (Nat.le_trans (HFL.out 6 (by omega)) (by omega)) W
                    have hR9 := fun W => rright k9 _ (dy[14]'(by omega)) HK9.out (hv 9) (Nat.le_trans (HFL.out 9 (by omega)) (by omega)) W
                    rw [hr3] at hR3; rw [hr6] at hR6; rw [hr9] at hR9
                    have e4 : (k4.toList == [60]) = d4 := by rw [← hd4]; exact eq_bytes HK4.out [60]
                    have hchk := Zn.chk_is F HF1.out (txts R)
                    rw [hd4, HB7.out, HB10.out, hr6, hr9, b4, hr3] at hchk
                    have HCHK := Lib.hid hchk; have HR3 := Lib.hid hR3; have HR6 := Lib.hid hR6; have HR9 := Lib.hid hR9
                    have HD4 := Lib.hid hd4; have HV2 := Lib.hid hv; have HB4 := Lib.hid b4
                    clear hchk hR3 hR6 hR9 hd4 hr3 hr6 hr9 hl4 hv b4
                    go_upto_region 23 with fail
                    go_cut [172] from 148 to 171 (fun v wx => v = .bool (!((d4 || r3) && (r6 && r9))) ∧ RZ w g #[.int .i64 F, .string t0, .string t1, .string ⟨#[]⟩, .string ⟨#[]⟩, .string t3, .string t5, .string k6, .string k8, .string k9, .string t11, .string t13] wx)
                    case first =>
                      cases d4
                      · cases r3
                        · (refine wp_region_held_drew (S := (fun W => W.cell? ⟨g, 7, none⟩ = some (.string k6) ∧ W.cell? ⟨g, 9, none⟩ = some (.string k9) ∧ RZ w g #[.int .i64 F, .string t0, .string t1, .string ⟨#[]⟩, .string ⟨#[]⟩, .string t3, .string t5, .string k6, .string k8, .string k9, .string t11, .string t13] W)) (by kernel_rfl) (show _ ∧ _ ∧ _ from ⟨HRZ4.out.2.1.cell 7, HRZ4.out.2.1.cell 9, HRZ4.out.drew⟩) (fun hHeld => ?_))
                          ((first | (refine tkI 0 ?_ (hy := ?_) (h := ?_); rotate_left 1; · (intro w hSw; (try dsimp only at hSw); go_simp; (try with_reducible rfl))) | (refine tkN 0 (h := ?_))); (try simp only [Act.put, List.setIfInBounds_toArray, List.set_cons_zero, List.set_cons_succ]))
                          ((first | (refine tkI 1 ?_ (hy := ?_) (h := ?_); rotate_left 1; · (intro w hSw; (try dsimp only at hSw); go_simp; (try with_reducible rfl))) | (refine tkN 1 (h := ?_))); (try simp only [Act.put, List.setIfInBounds_toArray, List.set_cons_zero, List.set_cons_succ]))
                          ((first | (refine tkI 2 ?_ (hy := ?_) (h := ?_); rotate_left 1; · (intro w hSw; (try dsimp only at hSw); go_simp; (try with_reducible rfl))) | (refine tkN 2 (h := ?_))); (try simp only [Act.put, List.setIfInBounds_toArray, List.set_cons_zero, List.set_cons_succ]))
                          ((first | (refine tkI 3 ?_ (hy := ?_) (h := ?_); rotate_left 1; · (intro w hSw; (try dsimp only at hSw); go_simp; (try with_reducible rfl))) | (refine tkN 3 (h := ?_))); (try simp only [Act.put, List.setIfInBounds_toArray, List.set_cons_zero, List.set_cons_succ]))
                          ((first | (refine tkI 4 ?_ (hy := ?_) (h := ?_); rotate_left 1; · (intro w hSw; (try dsimp only at hSw); go_simp; (try with_reducible rfl))) | (refine tkN 4 (h := ?_))); (try simp only [Act.put, List.setIfInBounds_toArray, List.set_cons_zero, List.set_cons_succ]))
                          ((first | (refine tkI 5 ?_ (hy := ?_) (h := ?_); rotate_left 1; · (intro w hSw; (try dsimp only at hSw); go_simp; (try with_reducible rfl))) | (refine tkN 5 (h := ?_))); (try simp only [Act.put, List.setIfInBounds_toArray, List.set_cons_zero, List.set_cons_succ]))
                          (refine wpAnyH_ready (rs := [6]) (by kernel_rfl) (by simp) ?_; refine AllReadyH.cons (by simp only [List.getElem?_toArray, List.getElem?_cons_succ, List.getElem?_cons_zero]; rfl) (fun K hK => ?_) AllReadyH.nil; go_simp; go_at_call 38; refine (HR3.out _).mono ?_; rintro e w' ⟨rfl, hb4⟩; refine hK.out _ _ (⟨cell_later hb4 hHeld.1, cell_later hb4 hHeld.2.1, hHeld.2.2.later hb4⟩) (fun hHeld => ?_); clear hK K; (try simp only [Act.put, List.setIfInBounds_toArray, List.set_cons_zero, List.set_cons_succ]))
                          ((first | (refine tkI 7 ?_ (hy := ?_) (h := ?_); rotate_left 1; · (intro w hSw; (try dsimp only at hSw); go_simp; (try with_reducible rfl))) | (refine tkN 7 (h := ?_))); (try simp only [Act.put, List.setIfInBounds_toArray, List.set_cons_zero, List.set_cons_succ]))
                          ((first | (refine tkI 8 ?_ (hy := ?_) (h := ?_); rotate_left 1; · (intro w hSw; (try dsimp only at hSw); go_simp; (try with_reducible rfl))) | (refine tkN 8 (h := ?_))); (try simp only [Act.put, List.setIfInBounds_toArray, List.set_cons_zero, List.set_cons_succ]))
                          ((first | (refine tkI 9 ?_ (hy := ?_) (h := ?_); rotate_left 1; · (intro w hSw; (try dsimp only at hSw); go_simp; (try with_reducible rfl))) | (refine tkN 9 (h := ?_))); (try simp only [Act.put, List.setIfInBounds_toArray, List.set_cons_zero, List.set_cons_succ]))
                          ((first | (refine tkI 10 ?_ (hy := ?_) (h := ?_); rotate_left 1; · (intro w hSw; (try dsimp only at hSw); go_simp; (try with_reducible rfl))) | (refine tkN 10 (h := ?_))); (try simp only [Act.put, List.setIfInBounds_toArray, List.set_cons_zero, List.set_cons_succ]))
                          ((first | (refine tkI 11 ?_ (hy := ?_) (h := ?_); rotate_left 1; · (intro w hSw; (try dsimp only at hSw); go_simp; (try with_reducible rfl))) | (refine tkN 11 (h := ?_))); (try simp only [Act.put, List.setIfInBounds_toArray, List.set_cons_zero, List.set_cons_succ]))
                          ((first | (refine tkI 12 ?_ (hy := ?_) (h := ?_); rotate_left 1; · (intro w hSw; (try dsimp only at hSw); go_simp; (try with_reducible rfl))) | (refine tkN 12 (h := ?_))); (try simp only [Act.put, List.setIfInBounds_toArray, List.set_cons_zero, List.set_cons_succ]))
                          ((first | (refine tkI 13 ?_ (hy := ?_) (h := ?_); rotate_left 1; · (intro w hSw; (try dsimp only at hSw); go_simp; (try with_reducible rfl))) | (refine tkN 13 (h := ?_))); (try simp only [Act.put, List.setIfInBounds_toArray, List.set_cons_zero, List.set_cons_succ]))
                          ((first | (refine tkI 14 ?_ (hy := ?_) (h := ?_); rotate_left 1; · (intro w hSw; (try dsimp only at hSw); go_simp; (try with_reducible rfl))) | (refine tkN 14 (h := ?_))); (try simp only [Act.put, List.setIfInBounds_toArray, List.set_cons_zero, List.set_cons_succ]))
                          ((first | (refine tkI 15 ?_ (hy := ?_) (h := ?_); rotate_left 1; · (intro w hSw; (try dsimp only at hSw); go_simp; (try with_reducible rfl))) | (refine tkN 15 (h := ?_))); (try simp only [Act.put, List.setIfInBounds_toArray, List.set_cons_zero, List.set_cons_succ]))
                          ((first | (refine tkI 16 ?_ (hy := ?_) (h := ?_); rotate_left 1; · (intro w hSw; (try dsimp only at hSw); go_simp; (try with_reducible rfl))) | (refine tkN 16 (h := ?_))); (try simp only [Act.put, List.setIfInBounds_toArray, List.set_cons_zero, List.set_cons_succ]))
                          ((first | (refine tkI 17 ?_ (hy := ?_) (h := ?_); rotate_left 1; · (intro w hSw; (try dsimp only at hSw); go_simp; (try with_reducible rfl))) | (refine tkN 17 (h := ?_))); (try simp only [Act.put, List.setIfInBounds_toArray, List.set_cons_zero, List.set_cons_succ]))
                          ((first | (refine tkI 18 ?_ (hy := ?_) (h := ?_); rotate_left 1; · (intro w hSw; (try dsimp only at hSw); go_simp; (try with_reducible rfl))) | (refine tkN 18 (h := ?_))); (try simp only [Act.put, List.setIfInBounds_toArray, List.set_cons_zero, List.set_cons_succ]))
                          ((first | (refine tkI 19 ?_ (hy := ?_) (h := ?_); rotate_left 1; · (intro w hSw; (try dsimp only at hSw); go_simp; (try with_reducible rfl))) | (refine tkN 19 (h := ?_))); (try simp only [Act.put, List.setIfInBounds_toArray, List.set_cons_zero, List.set_cons_succ]))
                          ((first | (refine tkI 20 ?_ (hy := ?_) (h := ?_); rotate_left 1; · (intro w hSw; (try dsimp only at hSw); go_simp; (try with_reducible rfl))) | (refine tkN 20 (h := ?_))); (try simp only [Act.put, List.setIfInBounds_toArray, List.set_cons_zero, List.set_cons_succ]))
                          ((first | (refine tkI 21 ?_ (hy := ?_) (h := ?_); rotate_left 1; · (intro w hSw; (try dsimp only at hSw); go_simp; (try with_reducible rfl))) | (refine tkN 21 (h := ?_))); (try simp only [Act.put, List.setIfInBounds_toArray, List.set_cons_zero, List.set_cons_succ]))
                          ((first | (refine tkI 22 ?_ (hy := ?_) (h := ?_); rotate_left 1; · (intro w hSw; (try dsimp only at hSw); go_simp; (try with_reducible rfl))) | (refine tkN 22 (h := ?_))); (try simp only [Act.put, List.setIfInBounds_toArray, List.set_cons_zero, List.set_cons_succ]))
                          ((first | (refine tkI 23 ?_ (hy := ?_) (h := ?_); rotate_left 1; · (intro w hSw; (try dsimp only at hSw); go_simp; (try with_reducible rfl))) | (refine tkN 23 (h := ?_))); (try simp only [Act.put, List.setIfInBounds_toArray, List.set_cons_zero, List.set_cons_succ]))
                          ((first | (refine tkI 24 ?_ (hy := ?_) (h := ?_); rotate_left 1; · (intro w hSw; (try dsimp only at hSw); go_simp; (try with_reducible rfl))) | (refine tkN 24 (h := ?_))); (try simp only [Act.put, List.setIfInBounds_toArray, List.set_cons_zero, List.set_cons_succ]))
                          (refine wpAnyH_done (by kernel_rfl) ?_ _)
                          go_wp2_with fail
                          go_meet
                          exact ⟨rfl, hHeld.2.2⟩
                        · cases r6
                          · (refine wp_region_held_drew (S := (fun W => W.cell? ⟨g, 7, none⟩ = some (.string k6) ∧ W.cell? ⟨g, 9, none⟩ = some (.string k9) ∧ RZ w g #[.int .i64 F, .string t0, .string t1, .string ⟨#[]⟩, .string ⟨#[]⟩, .string t3, .string t5, .string k6, .string k8, .string k9, .string t11, .string t13] W)) (by kernel_rfl) (show _ ∧ _ ∧ _ from ⟨HRZ4.out.2.1.cell 7, HRZ4.out.2.1.cell 9, HRZ4.out.drew⟩) (fun hHeld => ?_))
                            ((first | (refine tkI 0 ?_ (hy := ?_) (h := ?_); rotate_left 1; · (intro w hSw; (try dsimp only at hSw); go_simp; (try with_reducible rfl))) | (refine tkN 0 (h := ?_))); (try simp only [Act.put, List.setIfInBounds_toArray, List.set_cons_zero, List.set_cons_succ]))
                            ((first | (refine tkI 1 ?_ (hy := ?_) (h := ?_); rotate_left 1; · (intro w hSw; (try dsimp only at hSw); go_simp; (try with_reducible rfl))) | (refine tkN 1 (h := ?_))); (try simp only [Act.put, List.setIfInBounds_toArray, List.set_cons_zero, List.set_cons_succ]))
                            ((first | (refine tkI 2 ?_ (hy := ?_) (h := ?_); rotate_left 1; · (intro w hSw; (try dsimp only at hSw); go_simp; (try with_reducible rfl))) | (refine tkN 2 (h := ?_))); (try simp only [Act.put, List.setIfInBounds_toArray, List.set_cons_zero, List.set_cons_succ]))
                            ((first | (refine tkI 3 ?_ (hy := ?_) (h := ?_); rotate_left 1; · (intro w hSw; (try dsimp only at hSw); go_simp; (try with_reducible rfl))) | (refine tkN 3 (h := ?_))); (try simp only [Act.put, List.setIfInBounds_toArray, List.set_cons_zero, List.set_cons_succ]))
                            ((first | (refine tkI 4 ?_ (hy := ?_) (h := ?_); rotate_left 1; · (intro w hSw; (try dsimp only at hSw); go_simp; (try with_reducible rfl))) | (refine tkN 4 (h := ?_))); (try simp only [Act.put, List.setIfInBounds_toArray, List.set_cons_zero, List.set_cons_succ]))
                            ((first | (refine tkI 5 ?_ (hy := ?_) (h := ?_); rotate_left 1; · (intro w hSw; (try dsimp only at hSw); go_simp; (try with_reducible rfl))) | (refine tkN 5 (h := ?_))); (try simp only [Act.put, List.setIfInBounds_toArray, List.set_cons_zero, List.set_cons_succ]))
                            (refine wpAnyH_ready (rs := [6]) (by kernel_rfl) (by simp) ?_; refine AllReadyH.cons (by simp only [List.getElem?_toArray, List.getElem?_cons_succ, List.getElem?_cons_zero]; rfl) (fun K hK => ?_) AllReadyH.nil; go_simp; go_at_call 38; refine (HR3.out _).mono ?_; rintro e w' ⟨rfl, hb4⟩; refine hK.out _ _ (⟨cell_later hb4 hHeld.1, cell_later hb4 hHeld.2.1, hHeld.2.2.later hb4⟩) (fun hHeld => ?_); clear hK K; (try simp only [Act.put, List.setIfInBounds_toArray, List.set_cons_zero, List.set_cons_succ]))
                            ((first | (refine tkI 7 ?_ (hy := ?_) (h := ?_); rotate_left 1; · (intro w hSw; (try dsimp only at hSw); go_simp; (try with_reducible rfl))) | (refine tkN 7 (h := ?_))); (try simp only [Act.put, List.setIfInBounds_toArray, List.set_cons_zero, List.set_cons_succ]))
                            ((first | (refine tkI 8 ?_ (hy := ?_) (h := ?_); rotate_left 1; · (intro w hSw; (try dsimp only at hSw); go_simp; (try with_reducible rfl))) | (refine tkN 8 (h := ?_))); (try simp only [Act.put, List.setIfInBounds_toArray, List.set_cons_zero, List.set_cons_succ]))
                            ((first | (refine tkI 9 ?_ (hy := ?_) (h := ?_); rotate_left 1; · (intro w hSw; (try dsimp only at hSw); go_simp; (try with_reducible rfl))) | (refine tkN 9 (h := ?_))); (try simp only [Act.put, List.setIfInBounds_toArray, List.set_cons_zero, List.set_cons_succ]))
                            ((first | (refine tkI 10 ?_ (hy := ?_) (h := ?_); rotate_left 1; · (intro w hSw; (try dsimp only at hSw); go_simp; (try with_reducible rfl))) | (refine tkN 10 (h := ?_))); (try simp only [Act.put, List.setIfInBounds_toArray, List.set_cons_zero, List.set_cons_succ]))
                            ((first | (refine tkI 11 ?_ (hy := ?_) (h := ?_); rotate_left 1; · (intro w hSw; (try dsimp only at hSw); go_simp; (try with_reducible rfl))) | (refine tkN 11 (h := ?_))); (try simp only [Act.put, List.setIfInBounds_toArray, List.set_cons_zero, List.set_cons_succ]))
                            ((first | (refine tkI 12 ?_ (hy := ?_) (h := ?_); rotate_left 1; · (intro w hSw; (try dsimp only at hSw); go_simp; (try with_reducible rfl))) | (refine tkN 12 (h := ?_))); (try simp only [Act.put, List.setIfInBounds_toArray, List.set_cons_zero, List.set_cons_succ]))
                            ((first | (refine tkI 13 ?_ (hy := ?_) (h := ?_); rotate_left 1; · (intro w hSw; (try dsimp only at hSw); go_simp; (try with_reducible rfl))) | (refine tkN 13 (h := ?_))); (try simp only [Act.put, List.setIfInBounds_toArray, List.set_cons_zero, List.set_cons_succ]))
                            (refine wpAnyH_ready (rs := [14]) (by kernel_rfl) (by simp) ?_; refine AllReadyH.cons (by simp only [List.getElem?_toArray, List.getElem?_cons_succ, List.getElem?_cons_zero]; rfl) (fun K hK => ?_) AllReadyH.nil; go_simp; go_at_call 38; refine (HR6.out _).mono ?_; rintro e w' ⟨rfl, hb4⟩; refine hK.out _ _ (⟨cell_later hb4 hHeld.1, cell_later hb4 hHeld.2.1, hHeld.2.2.later hb4⟩) (fun hHeld => ?_); clear hK K; (try simp only [Act.put, List.setIfInBounds_toArray, List.set_cons_zero, List.set_cons_succ]))
                            ((first | (refine tkI 15 ?_ (hy := ?_) (h := ?_); rotate_left 1; · (intro w hSw; (try dsimp only at hSw); go_simp; (try with_reducible rfl))) | (refine tkN 15 (h := ?_))); (try simp only [Act.put, List.setIfInBounds_toArray, List.set_cons_zero, List.set_cons_succ]))
                            ((first | (refine tkI 16 ?_ (hy := ?_) (h := ?_); rotate_left 1; · (intro w hSw; (try dsimp only at hSw); go_simp; (try with_reducible rfl))) | (refine tkN 16 (h := ?_))); (try simp only [Act.put, List.setIfInBounds_toArray, List.set_cons_zero, List.set_cons_succ]))
                            ((first | (refine tkI 17 ?_ (hy := ?_) (h := ?_); rotate_left 1; · (intro w hSw; (try dsimp only at hSw); go_simp; (try with_reducible rfl))) | (refine tkN 17 (h := ?_))); (try simp only [Act.put, List.setIfInBounds_toArray, List.set_cons_zero, List.set_cons_succ]))
                            ((first | (refine tkI 18 ?_ (hy := ?_) (h := ?_); rotate_left 1; · (intro w hSw; (try dsimp only at hSw); go_simp; (try with_reducible rfl))) | (refine tkN 18 (h := ?_))); (try simp only [Act.put, List.setIfInBounds_toArray, List.set_cons_zero, List.set_cons_succ]))
                            ((first | (refine tkI 19 ?_ (hy := ?_) (h := ?_); rotate_left 1; · (intro w hSw; (try dsimp only at hSw); go_simp; (try with_reducible rfl))) | (refine tkN 19 (h := ?_))); (try simp only [Act.put, List.setIfInBounds_toArray, List.set_cons_zero, List.set_cons_succ]))
                            ((first | (refine tkI 20 ?_ (hy := ?_) (h := ?_); rotate_left 1; · (intro w hSw; (try dsimp only at hSw); go_simp; (try with_reducible rfl))) | (refine tkN 20 (h := ?_))); (try simp only [Act.put, List.setIfInBounds_toArray, List.set_cons_zero, List.set_cons_succ]))
                            ((first | (refine tkI 21 ?_ (hy := ?_) (h := ?_); rotate_left 1; · (intro w hSw; (try dsimp only at hSw); go_simp; (try with_reducible rfl))) | (refine tkN 21 (h := ?_))); (try simp only [Act.put, List.setIfInBounds_toArray, List.set_cons_zero, List.set_cons_succ]))
                            ((first | (refine tkI 22 ?_ (hy := ?_) (h := ?_); rotate_left 1; · (intro w hSw; (try dsimp only at hSw); go_simp; (try with_reducible rfl))) | (refine tkN 22 (h := ?_))); (try simp only [Act.put, List.setIfInBounds_toArray, List.set_cons_zero, List.set_cons_succ]))
                            ((first | (refine tkI 23 ?_ (hy := ?_) (h := ?_); rotate_left 1; · (intro w hSw; (try dsimp only at hSw); go_simp; (try with_reducible rfl))) | (refine tkN 23 (h := ?_))); (try simp only [Act.put, List.setIfInBounds_toArray, List.set_cons_zero, List.set_cons_succ]))
                            ((first | (refine tkI 24 ?_ (hy := ?_) (h := ?_); rotate_left 1; · (intro w hSw; (try dsimp only at hSw); go_simp; (try with_reducible rfl))) | (refine tkN 24 (h := ?_))); (try simp only [Act.put, List.setIfInBounds_toArray, List.set_cons_zero, List.set_cons_succ]))
                            (refine wpAnyH_done (by kernel_rfl) ?_ _)
                            go_wp2_with fail
                            go_meet
                            exact ⟨rfl, hHeld.2.2⟩
                          cases r9
                          · (refine wp_region_held_drew (S := (fun W => W.cell? ⟨g, 7, none⟩ = some (.string k6) ∧ W.cell? ⟨g, 9, none⟩ = some (.string k9) ∧ RZ w g #[.int .i64 F, .string t0, .string t1, .string ⟨#[]⟩, .string ⟨#[]⟩, .string t3, .string t5, .string k6, .string k8, .string k9, .string t11, .string t13] W)) (by kernel_rfl) (show _ ∧ _ ∧ _ from ⟨HRZ4.out.2.1.cell 7, HRZ4.out.2.1.cell 9, HRZ4.out.drew⟩) (fun hHeld => ?_))
                            ((first | (refine tkI 0 ?_ (hy := ?_) (h := ?_); rotate_left 1; · (intro w hSw; (try dsimp only at hSw); go_simp; (try with_reducible rfl))) | (refine tkN 0 (h := ?_))); (try simp only [Act.put, List.setIfInBounds_toArray, List.set_cons_zero, List.set_cons_succ]))
                            ((first | (refine tkI 1 ?_ (hy := ?_) (h := ?_); rotate_left 1; · (intro w hSw; (try dsimp only at hSw); go_simp; (try with_reducible rfl))) | (refine tkN 1 (h := ?_))); (try simp only [Act.put, List.setIfInBounds_toArray, List.set_cons_zero, List.set_cons_succ]))
                            ((first | (refine tkI 2 ?_ (hy := ?_) (h := ?_); rotate_left 1; · (intro w hSw; (try dsimp only at hSw); go_simp; (try with_reducible rfl))) | (refine tkN 2 (h := ?_))); (try simp only [Act.put, List.setIfInBounds_toArray, List.set_cons_zero, List.set_cons_succ]))
                            ((first | (refine tkI 3 ?_ (hy := ?_) (h := ?_); rotate_left 1; · (intro w hSw; (try dsimp only at hSw); go_simp; (try with_reducible rfl))) | (refine tkN 3 (h := ?_))); (try simp only [Act.put, List.setIfInBounds_toArray, List.set_cons_zero, List.set_cons_succ]))
                            ((first | (refine tkI 4 ?_ (hy := ?_) (h := ?_); rotate_left 1; · (intro w hSw; (try dsimp only at hSw); go_simp; (try with_reducible rfl))) | (refine tkN 4 (h := ?_))); (try simp only [Act.put, List.setIfInBounds_toArray, List.set_cons_zero, List.set_cons_succ]))
                            ((first | (refine tkI 5 ?_ (hy := ?_) (h := ?_); rotate_left 1; · (intro w hSw; (try dsimp only at hSw); go_simp; (try with_reducible rfl))) | (refine tkN 5 (h := ?_))); (try simp only [Act.put, List.setIfInBounds_toArray, List.set_cons_zero, List.set_cons_succ]))
                            (refine wpAnyH_ready (rs := [6]) (by kernel_rfl) (by simp) ?_; refine AllReadyH.cons (by simp only [List.getElem?_toArray, List.getElem?_cons_succ, List.getElem?_cons_zero]; rfl) (fun K hK => ?_) AllReadyH.nil; go_simp; go_at_call 38; refine (HR3.out _).mono ?_; rintro e w' ⟨rfl, hb4⟩; refine hK.out _ _ (⟨cell_later hb4 hHeld.1, cell_later hb4 hHeld.2.1, hHeld.2.2.later hb4⟩) (fun hHeld => ?_); clear hK K; (try simp only [Act.put, List.setIfInBounds_toArray, List.set_cons_zero, List.set_cons_succ]))
                            ((first | (refine tkI 7 ?_ (hy := ?_) (h := ?_); rotate_left 1; · (intro w hSw; (try dsimp only at hSw); go_simp; (try with_reducible rfl))) | (refine tkN 7 (h := ?_))); (try simp only [Act.put, List.setIfInBounds_toArray, List.set_cons_zero, List.set_cons_succ]))
                            ((first | (refine tkI 8 ?_ (hy := ?_) (h := ?_); rotate_left 1; · (intro w hSw; (try dsimp only at hSw); go_simp; (try with_reducible rfl))) | (refine tkN 8 (h := ?_))); (try simp only [Act.put, List.setIfInBounds_toArray, List.set_cons_zero, List.set_cons_succ]))
                            ((first | (refine tkI 9 ?_ (hy := ?_) (h := ?_); rotate_left 1; · (intro w hSw; (try dsimp only at hSw); go_simp; (try with_reducible rfl))) | (refine tkN 9 (h := ?_))); (try simp only [Act.put, List.setIfInBounds_toArray, List.set_cons_zero, List.set_cons_succ]))
                            ((first | (refine tkI 10 ?_ (hy := ?_) (h := ?_); rotate_left 1; · (intro w hSw; (try dsimp only at hSw); go_simp; (try with_reducible rfl))) | (refine tkN 10 (h := ?_))); (try simp only [Act.put, List.setIfInBounds_toArray, List.set_cons_zero, List.set_cons_succ]))
                            ((first | (refine tkI 11 ?_ (hy := ?_) (h := ?_); rotate_left 1; · (intro w hSw; (try dsimp only at hSw); go_simp; (try with_reducible rfl))) | (refine tkN 11 (h := ?_))); (try simp only [Act.put, List.setIfInBounds_toArray, List.set_cons_zero, List.set_cons_succ]))
                            ((first | (refine tkI 12 ?_ (hy := ?_) (h := ?_); rotate_left 1; · (intro w hSw; (try dsimp only at hSw); go_simp; (try with_reducible rfl))) | (refine tkN 12 (h := ?_))); (try simp only [Act.put, List.setIfInBounds_toArray, List.set_cons_zero, List.set_cons_succ]))
                            ((first | (refine tkI 13 ?_ (hy := ?_) (h := ?_); rotate_left 1; · (intro w hSw; (try dsimp only at hSw); go_simp; (try with_reducible rfl))) | (refine tkN 13 (h := ?_))); (try simp only [Act.put, List.setIfInBounds_toArray, List.set_cons_zero, List.set_cons_succ]))
                            (refine wpAnyH_ready (rs := [14]) (by kernel_rfl) (by simp) ?_; refine AllReadyH.cons (by simp only [List.getElem?_toArray, List.getElem?_cons_succ, List.getElem?_cons_zero]; rfl) (fun K hK => ?_) AllReadyH.nil; go_simp; go_at_call 38; refine (HR6.out _).mono ?_; rintro e w' ⟨rfl, hb4⟩; refine hK.out _ _ (⟨cell_later hb4 hHeld.1, cell_later hb4 hHeld.2.1, hHeld.2.2.later hb4⟩) (fun hHeld => ?_); clear hK K; (try simp only [Act.put, List.setIfInBounds_toArray, List.set_cons_zero, List.set_cons_succ]))
                            ((first | (refine tkI 15 ?_ (hy := ?_) (h := ?_); rotate_left 1; · (intro w hSw; (try dsimp only at hSw); go_simp; (try with_reducible rfl))) | (refine tkN 15 (h := ?_))); (try simp only [Act.put, List.setIfInBounds_toArray, List.set_cons_zero, List.set_cons_succ]))
                            ((first | (refine tkI 16 ?_ (hy := ?_) (h := ?_); rotate_left 1; · (intro w hSw; (try dsimp only at hSw); go_simp; (try with_reducible rfl))) | (refine tkN 16 (h := ?_))); (try simp only [Act.put, List.setIfInBounds_toArray, List.set_cons_zero, List.set_cons_succ]))
                            ((first | (refine tkI 17 ?_ (hy := ?_) (h := ?_); rotate_left 1; · (intro w hSw; (try dsimp only at hSw); go_simp; (try with_reducible rfl))) | (refine tkN 17 (h := ?_))); (try simp only [Act.put, List.setIfInBounds_toArray, List.set_cons_zero, List.set_cons_succ]))
                            ((first | (refine tkI 18 ?_ (hy := ?_) (h := ?_); rotate_left 1; · (intro w hSw; (try dsimp only at hSw); go_simp; (try with_reducible rfl))) | (refine tkN 18 (h := ?_))); (try simp only [Act.put, List.setIfInBounds_toArray, List.set_cons_zero, List.set_cons_succ]))
                            ((first | (refine tkI 19 ?_ (hy := ?_) (h := ?_); rotate_left 1; · (intro w hSw; (try dsimp only at hSw); go_simp; (try with_reducible rfl))) | (refine tkN 19 (h := ?_))); (try simp only [Act.put, List.setIfInBounds_toArray, List.set_cons_zero, List.set_cons_succ]))
                            ((first | (refine tkI 20 ?_ (hy := ?_) (h := ?_); rotate_left 1; · (intro w hSw; (try dsimp only at hSw); go_simp; (try with_reducible rfl))) | (refine tkN 20 (h := ?_))); (try simp only [Act.put, List.setIfInBounds_toArray, List.set_cons_zero, List.set_cons_succ]))
                            ((first | (refine tkI 21 ?_ (hy := ?_) (h := ?_); rotate_left 1; · (intro w hSw; (try dsimp only at hSw); go_simp; (try with_reducible rfl))) | (refine tkN 21 (h := ?_))); (try simp only [Act.put, List.setIfInBounds_toArray, List.set_cons_zero, List.set_cons_succ]))
                            (refine wpAnyH_ready (rs := [22]) (by kernel_rfl) (by simp) ?_; refine AllReadyH.cons (by simp only [List.getElem?_toArray, List.getElem?_cons_succ, List.getElem?_cons_zero]; rfl) (fun K hK => ?_) AllReadyH.nil; go_simp; go_at_call 38; refine (HR9.out _).mono ?_; rintro e w' ⟨rfl, hb4⟩; refine hK.out _ _ (⟨cell_later hb4 hHeld.1, cell_later hb4 hHeld.2.1, hHeld.2.2.later hb4⟩) (fun hHeld => ?_); clear hK K; (try simp only [Act.put, List.setIfInBounds_toArray, List.set_cons_zero, List.set_cons_succ]))
                            ((first | (refine tkI 23 ?_ (hy := ?_) (h := ?_); rotate_left 1; · (intro w hSw; (try dsimp only at hSw); go_simp; (try with_reducible rfl))) | (refine tkN 23 (h := ?_))); (try simp only [Act.put, List.setIfInBounds_toArray, List.set_cons_zero, List.set_cons_succ]))
                            ((first | (refine tkI 24 ?_ (hy := ?_) (h := ?_); rotate_left 1; · (intro w hSw; (try dsimp only at hSw); go_simp; (try with_reducible rfl))) | (refine tkN 24 (h := ?_))); (try simp only [Act.put, List.setIfInBounds_toArray, List.set_cons_zero, List.set_cons_succ]))
                            (refine wpAnyH_done (by kernel_rfl) ?_ _)
                            go_wp2_with fail
                            go_meet
                            exact ⟨rfl, hHeld.2.2⟩
                          · (refine wp_region_held_drew (S := (fun W => W.cell? ⟨g, 7, none⟩ = some (.string k6) ∧ W.cell? ⟨g, 9, none⟩ = some (.string k9) ∧ RZ w g #[.int .i64 F, .string t0, .string t1, .string ⟨#[]⟩, .string ⟨#[]⟩, .string t3, .string t5, .string k6, .string k8, .string k9, .string t11, .string t13] W)) (by kernel_rfl) (show _ ∧ _ ∧ _ from ⟨HRZ4.out.2.1.cell 7, HRZ4.out.2.1.cell 9, HRZ4.out.drew⟩) (fun hHeld => ?_))
                            ((first | (refine tkI 0 ?_ (hy := ?_) (h := ?_); rotate_left 1; · (intro w hSw; (try dsimp only at hSw); go_simp; (try with_reducible rfl))) | (refine tkN 0 (h := ?_))); (try simp only [Act.put, List.setIfInBounds_toArray, List.set_cons_zero, List.set_cons_succ]))
                            ((first | (refine tkI 1 ?_ (hy := ?_) (h := ?_); rotate_left 1; · (intro w hSw; (try dsimp only at hSw); go_simp; (try with_reducible rfl))) | (refine tkN 1 (h := ?_))); (try simp only [Act.put, List.setIfInBounds_toArray, List.set_cons_zero, List.set_cons_succ]))
                            ((first | (refine tkI 2 ?_ (hy := ?_) (h := ?_); rotate_left 1; · (intro w hSw; (try dsimp only at hSw); go_simp; (try with_reducible rfl))) | (refine tkN 2 (h := ?_))); (try simp only [Act.put, List.setIfInBounds_toArray, List.set_cons_zero, List.set_cons_succ]))
                            ((first | (refine tkI 3 ?_ (hy := ?_) (h := ?_); rotate_left 1; · (intro w hSw; (try dsimp only at hSw); go_simp; (try with_reducible rfl))) | (refine tkN 3 (h := ?_))); (try simp only [Act.put, List.setIfInBounds_toArray, List.set_cons_zero, List.set_cons_succ]))
                            ((first | (refine tkI 4 ?_ (hy := ?_) (h := ?_); rotate_left 1; · (intro w hSw; (try dsimp only at hSw); go_simp; (try with_reducible rfl))) | (refine tkN 4 (h := ?_))); (try simp only [Act.put, List.setIfInBounds_toArray, List.set_cons_zero, List.set_cons_succ]))
                            ((first | (refine tkI 5 ?_ (hy := ?_) (h := ?_); rotate_left 1; · (intro w hSw; (try dsimp only at hSw); go_simp; (try with_reducible rfl))) | (refine tkN 5 (h := ?_))); (try simp only [Act.put, List.setIfInBounds_toArray, List.set_cons_zero, List.set_cons_succ]))
                            (refine wpAnyH_ready (rs := [6]) (by kernel_rfl) (by simp) ?_; refine AllReadyH.cons (by simp only [List.getElem?_toArray, List.getElem?_cons_succ, List.getElem?_cons_zero]; rfl) (fun K hK => ?_) AllReadyH.nil; go_simp; go_at_call 38; refine (HR3.out _).mono ?_; rintro e w' ⟨rfl, hb4⟩; refine hK.out _ _ (⟨cell_later hb4 hHeld.1, cell_later hb4 hHeld.2.1, hHeld.2.2.later hb4⟩) (fun hHeld => ?_); clear hK K; (try simp only [Act.put, List.setIfInBounds_toArray, List.set_cons_zero, List.set_cons_succ]))
                            ((first | (refine tkI 7 ?_ (hy := ?_) (h := ?_); rotate_left 1; · (intro w hSw; (try dsimp only at hSw); go_simp; (try with_reducible rfl))) | (refine tkN 7 (h := ?_))); (try simp only [Act.put, List.setIfInBounds_toArray, List.set_cons_zero, List.set_cons_succ]))
                            ((first | (refine tkI 8 ?_ (hy := ?_) (h := ?_); rotate_left 1; · (intro w hSw; (try dsimp only at hSw); go_simp; (try with_reducible rfl))) | (refine tkN 8 (h := ?_))); (try simp only [Act.put, List.setIfInBounds_toArray, List.set_cons_zero, List.set_cons_succ]))
                            ((first | (refine tkI 9 ?_ (hy := ?_) (h := ?_); rotate_left 1; · (intro w hSw; (try dsimp only at hSw); go_simp; (try with_reducible rfl))) | (refine tkN 9 (h := ?_))); (try simp only [Act.put, List.setIfInBounds_toArray, List.set_cons_zero, List.set_cons_succ]))
                            ((first | (refine tkI 10 ?_ (hy := ?_) (h := ?_); rotate_left 1; · (intro w hSw; (try dsimp only at hSw); go_simp; (try with_reducible rfl))) | (refine tkN 10 (h := ?_))); (try simp only [Act.put, List.setIfInBounds_toArray, List.set_cons_zero, List.set_cons_succ]))
                            ((first | (refine tkI 11 ?_ (hy := ?_) (h := ?_); rotate_left 1; · (intro w hSw; (try dsimp only at hSw); go_simp; (try with_reducible rfl))) | (refine tkN 11 (h := ?_))); (try simp only [Act.put, List.setIfInBounds_toArray, List.set_cons_zero, List.set_cons_succ]))
                            ((first | (refine tkI 12 ?_ (hy := ?_) (h := ?_); rotate_left 1; · (intro w hSw; (try dsimp only at hSw); go_simp; (try with_reducible rfl))) | (refine tkN 12 (h := ?_))); (try simp only [Act.put, List.setIfInBounds_toArray, List.set_cons_zero, List.set_cons_succ]))
                            ((first | (refine tkI 13 ?_ (hy := ?_) (h := ?_); rotate_left 1; · (intro w hSw; (try dsimp only at hSw); go_simp; (try with_reducible rfl))) | (refine tkN 13 (h := ?_))); (try simp only [Act.put, List.setIfInBounds_toArray, List.set_cons_zero, List.set_cons_succ]))
                            (refine wpAnyH_ready (rs := [14]) (by kernel_rfl) (by simp) ?_; refine AllReadyH.cons (by simp only [List.getElem?_toArray, List.getElem?_cons_succ, List.getElem?_cons_zero]; rfl) (fun K hK => ?_) AllReadyH.nil; go_simp; go_at_call 38; refine (HR6.out _).mono ?_; rintro e w' ⟨rfl, hb4⟩; refine hK.out _ _ (⟨cell_later hb4 hHeld.1, cell_later hb4 hHeld.2.1, hHeld.2.2.later hb4⟩) (fun hHeld => ?_); clear hK K; (try simp only [Act.put, List.setIfInBounds_toArray, List.set_cons_zero, List.set_cons_succ]))
                            ((first | (refine tkI 15 ?_ (hy := ?_) (h := ?_); rotate_left 1; · (intro w hSw; (try dsimp only at hSw); go_simp; (try with_reducible rfl))) | (refine tkN 15 (h := ?_))); (try simp only [Act.put, List.setIfInBounds_toArray, List.set_cons_zero, List.set_cons_succ]))
                            ((first | (refine tkI 16 ?_ (hy := ?_) (h := ?_); rotate_left 1; · (intro w hSw; (try dsimp only at hSw); go_simp; (try with_reducible rfl))) | (refine tkN 16 (h := ?_))); (try simp only [Act.put, List.setIfInBounds_toArray, List.set_cons_zero, List.set_cons_succ]))
                            ((first | (refine tkI 17 ?_ (hy := ?_) (h := ?_); rotate_left 1; · (intro w hSw; (try dsimp only at hSw); go_simp; (try with_reducible rfl))) | (refine tkN 17 (h := ?_))); (try simp only [Act.put, List.setIfInBounds_toArray, List.set_cons_zero, List.set_cons_succ]))
                            ((first | (refine tkI 18 ?_ (hy := ?_) (h := ?_); rotate_left 1; · (intro w hSw; (try dsimp only at hSw); go_simp; (try with_reducible rfl))) | (refine tkN 18 (h := ?_))); (try simp only [Act.put, List.setIfInBounds_toArray, List.set_cons_zero, List.set_cons_succ]))
                            ((first | (refine tkI 19 ?_ (hy := ?_) (h := ?_); rotate_left 1; · (intro w hSw; (try dsimp only at hSw); go_simp; (try with_reducible rfl))) | (refine tkN 19 (h := ?_))); (try simp only [Act.put, List.setIfInBounds_toArray, List.set_cons_zero, List.set_cons_succ]))
                            ((first | (refine tkI 20 ?_ (hy := ?_) (h := ?_); rotate_left 1; · (intro w hSw; (try dsimp only at hSw); go_simp; (try with_reducible rfl))) | (refine tkN 20 (h := ?_))); (try simp only [Act.put, List.setIfInBounds_toArray, List.set_cons_zero, List.set_cons_succ]))
                            ((first | (refine tkI 21 ?_ (hy := ?_) (h := ?_); rotate_left 1; · (intro w hSw; (try dsimp only at hSw); go_simp; (try with_reducible rfl))) | (refine tkN 21 (h := ?_))); (try simp only [Act.put, List.setIfInBounds_toArray, List.set_cons_zero, List.set_cons_succ]))
                            (refine wpAnyH_ready (rs := [22]) (by kernel_rfl) (by simp) ?_; refine AllReadyH.cons (by simp only [List.getElem?_toArray, List.getElem?_cons_succ, List.getElem?_cons_zero]; rfl) (fun K hK => ?_) AllReadyH.nil; go_simp; go_at_call 38; refine (HR9.out _).mono ?_; rintro e w' ⟨rfl, hb4⟩; refine hK.out _ _ (⟨cell_later hb4 hHeld.1, cell_later hb4 hHeld.2.1, hHeld.2.2.later hb4⟩) (fun hHeld => ?_); clear hK K; (try simp only [Act.put, List.setIfInBounds_toArray, List.set_cons_zero, List.set_cons_succ]))
                            ((first | (refine tkI 23 ?_ (hy := ?_) (h := ?_); rotate_left 1; · (intro w hSw; (try dsimp only at hSw); go_simp; (try with_reducible rfl))) | (refine tkN 23 (h := ?_))); (try simp only [Act.put, List.setIfInBounds_toArray, List.set_cons_zero, List.set_cons_succ]))
                            ((first | (refine tkI 24 ?_ (hy := ?_) (h := ?_); rotate_left 1; · (intro w hSw; (try dsimp only at hSw); go_simp; (try with_reducible rfl))) | (refine tkN 24 (h := ?_))); (try simp only [Act.put, List.setIfInBounds_toArray, List.set_cons_zero, List.set_cons_succ]))
                            (refine wpAnyH_done (by kernel_rfl) ?_ _)
                            go_wp2_with fail
                            go_meet
                            exact ⟨rfl, hHeld.2.2⟩
                      · cases r6
                        · (refine wp_region_held_drew (S := (fun W => W.cell? ⟨g, 7, none⟩ = some (.string k6) ∧ W.cell? ⟨g, 9, none⟩ = some (.string k9) ∧ RZ w g #[.int .i64 F, .string t0, .string t1, .string ⟨#[]⟩, .string ⟨#[]⟩, .string t3, .string t5, .string k6, .string k8, .string k9, .string t11, .string t13] W)) (by kernel_rfl) (show _ ∧ _ ∧ _ from ⟨HRZ4.out.2.1.cell 7, HRZ4.out.2.1.cell 9, HRZ4.out.drew⟩) (fun hHeld => ?_))
                          ((first | (refine tkI 0 ?_ (hy := ?_) (h := ?_); rotate_left 1; · (intro w hSw; (try dsimp only at hSw); go_simp; (try with_reducible rfl))) | (refine tkN 0 (h := ?_))); (try simp only [Act.put, List.setIfInBounds_toArray, List.set_cons_zero, List.set_cons_succ]))
                          ((first | (refine tkI 1 ?_ (hy := ?_) (h := ?_); rotate_left 1; · (intro w hSw; (try dsimp only at hSw); go_simp; (try with_reducible rfl))) | (refine tkN 1 (h := ?_))); (try simp only [Act.put, List.setIfInBounds_toArray, List.set_cons_zero, List.set_cons_succ]))
                          ((first | (refine tkI 2 ?_ (hy := ?_) (h := ?_); rotate_left 1; · (intro w hSw; (try dsimp only at hSw); go_simp; (try with_reducible rfl))) | (refine tkN 2 (h := ?_))); (try simp only [Act.put, List.setIfInBounds_toArray, List.set_cons_zero, List.set_cons_succ]))
                          ((first | (refine tkI 3 ?_ (hy := ?_) (h := ?_); rotate_left 1; · (intro w hSw; (try dsimp only at hSw); go_simp; (try with_reducible rfl))) | (refine tkN 3 (h := ?_))); (try simp only [Act.put, List.setIfInBounds_toArray, List.set_cons_zero, List.set_cons_succ]))
                          ((first | (refine tkI 4 ?_ (hy := ?_) (h := ?_); rotate_left 1; · (intro w hSw; (try dsimp only at hSw); go_simp; (try with_reducible rfl))) | (refine tkN 4 (h := ?_))); (try simp only [Act.put, List.setIfInBounds_toArray, List.set_cons_zero, List.set_cons_succ]))
                          ((first | (refine tkI 5 ?_ (hy := ?_) (h := ?_); rotate_left 1; · (intro w hSw; (try dsimp only at hSw); go_simp; (try with_reducible rfl))) | (refine tkN 5 (h := ?_))); (try simp only [Act.put, List.setIfInBounds_toArray, List.set_cons_zero, List.set_cons_succ]))
                          ((first | (refine tkI 6 ?_ (hy := ?_) (h := ?_); rotate_left 1; · (intro w hSw; (try dsimp only at hSw); go_simp; (try with_reducible rfl))) | (refine tkN 6 (h := ?_))); (try simp only [Act.put, List.setIfInBounds_toArray, List.set_cons_zero, List.set_cons_succ]))
                          ((first | (refine tkI 7 ?_ (hy := ?_) (h := ?_); rotate_left 1; · (intro w hSw; (try dsimp only at hSw); go_simp; (try with_reducible rfl))) | (refine tkN 7 (h := ?_))); (try simp only [Act.put, List.setIfInBounds_toArray, List.set_cons_zero, List.set_cons_succ]))
                          ((first | (refine tkI 8 ?_ (hy := ?_) (h := ?_); rotate_left 1; · (intro w hSw; (try dsimp only at hSw); go_simp; (try with_reducible rfl))) | (refine tkN 8 (h := ?_))); (try simp only [Act.put, List.setIfInBounds_toArray, List.set_cons_zero, List.set_cons_succ]))
                          ((first | (refine tkI 9 ?_ (hy := ?_) (h := ?_); rotate_left 1; · (intro w hSw; (try dsimp only at hSw); go_simp; (try with_reducible rfl))) | (refine tkN 9 (h := ?_))); (try simp only [Act.put, List.setIfInBounds_toArray, List.set_cons_zero, List.set_cons_succ]))
                          ((first | (refine tkI 10 ?_ (hy := ?_) (h := ?_); rotate_left 1; · (intro w hSw; (try dsimp only at hSw); go_simp; (try with_reducible rfl))) | (refine tkN 10 (h := ?_))); (try simp only [Act.put, List.setIfInBounds_toArray, List.set_cons_zero, List.set_cons_succ]))
                          ((first | (refine tkI 11 ?_ (hy := ?_) (h := ?_); rotate_left 1; · (intro w hSw; (try dsimp only at hSw); go_simp; (try with_reducible rfl))) | (refine tkN 11 (h := ?_))); (try simp only [Act.put, List.setIfInBounds_toArray, List.set_cons_zero, List.set_cons_succ]))
                          ((first | (refine tkI 12 ?_ (hy := ?_) (h := ?_); rotate_left 1; · (intro w hSw; (try dsimp only at hSw); go_simp; (try with_reducible rfl))) | (refine tkN 12 (h := ?_))); (try simp only [Act.put, List.setIfInBounds_toArray, List.set_cons_zero, List.set_cons_succ]))
                          ((first | (refine tkI 13 ?_ (hy := ?_) (h := ?_); rotate_left 1; · (intro w hSw; (try dsimp only at hSw); go_simp; (try with_reducible rfl))) | (refine tkN 13 (h := ?_))); (try simp only [Act.put, List.setIfInBounds_toArray, List.set_cons_zero, List.set_cons_succ]))
                          (refine wpAnyH_ready (rs := [14]) (by kernel_rfl) (by simp) ?_; refine AllReadyH.cons (by simp only [List.getElem?_toArray, List.getElem?_cons_succ, List.getElem?_cons_zero]; rfl) (fun K hK => ?_) AllReadyH.nil; go_simp; go_at_call 38; refine (HR6.out _).mono ?_; rintro e w' ⟨rfl, hb4⟩; refine hK.out _ _ (⟨cell_later hb4 hHeld.1, cell_later hb4 hHeld.2.1, hHeld.2.2.later hb4⟩) (fun hHeld => ?_); clear hK K; (try simp only [Act.put, List.setIfInBounds_toArray, List.set_cons_zero, List.set_cons_succ]))
                          ((first | (refine tkI 15 ?_ (hy := ?_) (h := ?_); rotate_left 1; · (intro w hSw; (try dsimp only at hSw); go_simp; (try with_reducible rfl))) | (refine tkN 15 (h := ?_))); (try simp only [Act.put, List.setIfInBounds_toArray, List.set_cons_zero, List.set_cons_succ]))
                          ((first | (refine tkI 16 ?_ (hy := ?_) (h := ?_); rotate_left 1; · (intro w hSw; (try dsimp only at hSw); go_simp; (try with_reducible rfl))) | (refine tkN 16 (h := ?_))); (try simp only [Act.put, List.setIfInBounds_toArray, List.set_cons_zero, List.set_cons_succ]))
                          ((first | (refine tkI 17 ?_ (hy := ?_) (h := ?_); rotate_left 1; · (intro w hSw; (try dsimp only at hSw); go_simp; (try with_reducible rfl))) | (refine tkN 17 (h := ?_))); (try simp only [Act.put, List.setIfInBounds_toArray, List.set_cons_zero, List.set_cons_succ]))
                          ((first | (refine tkI 18 ?_ (hy := ?_) (h := ?_); rotate_left 1; · (intro w hSw; (try dsimp only at hSw); go_simp; (try with_reducible rfl))) | (refine tkN 18 (h := ?_))); (try simp only [Act.put, List.setIfInBounds_toArray, List.set_cons_zero, List.set_cons_succ]))
                          ((first | (refine tkI 19 ?_ (hy := ?_) (h := ?_); rotate_left 1; · (intro w hSw; (try dsimp only at hSw); go_simp; (try with_reducible rfl))) | (refine tkN 19 (h := ?_))); (try simp only [Act.put, List.setIfInBounds_toArray, List.set_cons_zero, List.set_cons_succ]))
                          ((first | (refine tkI 20 ?_ (hy := ?_) (h := ?_); rotate_left 1; · (intro w hSw; (try dsimp only at hSw); go_simp; (try with_reducible rfl))) | (refine tkN 20 (h := ?_))); (try simp only [Act.put, List.setIfInBounds_toArray, List.set_cons_zero, List.set_cons_succ]))
                          ((first | (refine tkI 21 ?_ (hy := ?_) (h := ?_); rotate_left 1; · (intro w hSw; (try dsimp only at hSw); go_simp; (try with_reducible rfl))) | (refine tkN 21 (h := ?_))); (try simp only [Act.put, List.setIfInBounds_toArray, List.set_cons_zero, List.set_cons_succ]))
                          ((first | (refine tkI 22 ?_ (hy := ?_) (h := ?_); rotate_left 1; · (intro w hSw; (try dsimp only at hSw); go_simp; (try with_reducible rfl))) | (refine tkN 22 (h := ?_))); (try simp only [Act.put, List.setIfInBounds_toArray, List.set_cons_zero, List.set_cons_succ]))
                          ((first | (refine tkI 23 ?_ (hy := ?_) (h := ?_); rotate_left 1; · (intro w hSw; (try dsimp only at hSw); go_simp; (try with_reducible rfl))) | (refine tkN 23 (h := ?_))); (try simp only [Act.put, List.setIfInBounds_toArray, List.set_cons_zero, List.set_cons_succ]))
                          ((first | (refine tkI 24 ?_ (hy := ?_) (h := ?_); rotate_left 1; · (intro w hSw; (try dsimp only at hSw); go_simp; (try with_reducible rfl))) | (refine tkN 24 (h := ?_))); (try simp only [Act.put, List.setIfInBounds_toArray, List.set_cons_zero, List.set_cons_succ]))
                          (refine wpAnyH_done (by kernel_rfl) ?_ _)
                          go_wp2_with fail
                          go_meet
                          exact ⟨rfl, hHeld.2.2⟩
                        cases r9
                        · (refine wp_region_held_drew (S := (fun W => W.cell? ⟨g, 7, none⟩ = some (.string k6) ∧ W.cell? ⟨g, 9, none⟩ = some (.string k9) ∧ RZ w g #[.int .i64 F, .string t0, .string t1, .string ⟨#[]⟩, .string ⟨#[]⟩, .string t3, .string t5, .string k6, .string k8, .string k9, .string t11, .string t13] W)) (by kernel_rfl) (show _ ∧ _ ∧ _ from ⟨HRZ4.out.2.1.cell 7, HRZ4.out.2.1.cell 9, HRZ4.out.drew⟩) (fun hHeld => ?_))
                          ((first | (refine tkI 0 ?_ (hy := ?_) (h := ?_); rotate_left 1; · (intro w hSw; (try dsimp only at hSw); go_simp; (try with_reducible rfl))) | (refine tkN 0 (h := ?_))); (try simp only [Act.put, List.setIfInBounds_toArray, List.set_cons_zero, List.set_cons_succ]))
                          ((first | (refine tkI 1 ?_ (hy := ?_) (h := ?_); rotate_left 1; · (intro w hSw; (try dsimp only at hSw); go_simp; (try with_reducible rfl))) | (refine tkN 1 (h := ?_))); (try simp only [Act.put, List.setIfInBounds_toArray, List.set_cons_zero, List.set_cons_succ]))
                          ((first | (refine tkI 2 ?_ (hy := ?_) (h := ?_); rotate_left 1; · (intro w hSw; (try dsimp only at hSw); go_simp; (try with_reducible rfl))) | (refine tkN 2 (h := ?_))); (try simp only [Act.put, List.setIfInBounds_toArray, List.set_cons_zero, List.set_cons_succ]))
                          ((first | (refine tkI 3 ?_ (hy := ?_) (h := ?_); rotate_left 1; · (intro w hSw; (try dsimp only at hSw); go_simp; (try with_reducible rfl))) | (refine tkN 3 (h := ?_))); (try simp only [Act.put, List.setIfInBounds_toArray, List.set_cons_zero, List.set_cons_succ]))
                          ((first | (refine tkI 4 ?_ (hy := ?_) (h := ?_); rotate_left 1; · (intro w hSw; (try dsimp only at hSw); go_simp; (try with_reducible rfl))) | (refine tkN 4 (h := ?_))); (try simp only [Act.put, List.setIfInBounds_toArray, List.set_cons_zero, List.set_cons_succ]))
                          ((first | (refine tkI 5 ?_ (hy := ?_) (h := ?_); rotate_left 1; · (intro w hSw; (try dsimp only at hSw); go_simp; (try with_reducible rfl))) | (refine tkN 5 (h := ?_))); (try simp only [Act.put, List.setIfInBounds_toArray, List.set_cons_zero, List.set_cons_succ]))
                          ((first | (refine tkI 6 ?_ (hy := ?_) (h := ?_); rotate_left 1; · (intro w hSw; (try dsimp only at hSw); go_simp; (try with_reducible rfl))) | (refine tkN 6 (h := ?_))); (try simp only [Act.put, List.setIfInBounds_toArray, List.set_cons_zero, List.set_cons_succ]))
                          ((first | (refine tkI 7 ?_ (hy := ?_) (h := ?_); rotate_left 1; · (intro w hSw; (try dsimp only at hSw); go_simp; (try with_reducible rfl))) | (refine tkN 7 (h := ?_))); (try simp only [Act.put, List.setIfInBounds_toArray, List.set_cons_zero, List.set_cons_succ]))
                          ((first | (refine tkI 8 ?_ (hy := ?_) (h := ?_); rotate_left 1; · (intro w hSw; (try dsimp only at hSw); go_simp; (try with_reducible rfl))) | (refine tkN 8 (h := ?_))); (try simp only [Act.put, List.setIfInBounds_toArray, List.set_cons_zero, List.set_cons_succ]))
                          ((first | (refine tkI 9 ?_ (hy := ?_) (h := ?_); rotate_left 1; · (intro w hSw; (try dsimp only at hSw); go_simp; (try with_reducible rfl))) | (refine tkN 9 (h := ?_))); (try simp only [Act.put, List.setIfInBounds_toArray, List.set_cons_zero, List.set_cons_succ]))
                          ((first | (refine tkI 10 ?_ (hy := ?_) (h := ?_); rotate_left 1; · (intro w hSw; (try dsimp only at hSw); go_simp; (try with_reducible rfl))) | (refine tkN 10 (h := ?_))); (try simp only [Act.put, List.setIfInBounds_toArray, List.set_cons_zero, List.set_cons_succ]))
                          ((first | (refine tkI 11 ?_ (hy := ?_) (h := ?_); rotate_left 1; · (intro w hSw; (try dsimp only at hSw); go_simp; (try with_reducible rfl))) | (refine tkN 11 (h := ?_))); (try simp only [Act.put, List.setIfInBounds_toArray, List.set_cons_zero, List.set_cons_succ]))
                          ((first | (refine tkI 12 ?_ (hy := ?_) (h := ?_); rotate_left 1; · (intro w hSw; (try dsimp only at hSw); go_simp; (try with_reducible rfl))) | (refine tkN 12 (h := ?_))); (try simp only [Act.put, List.setIfInBounds_toArray, List.set_cons_zero, List.set_cons_succ]))
                          ((first | (refine tkI 13 ?_ (hy := ?_) (h := ?_); rotate_left 1; · (intro w hSw; (try dsimp only at hSw); go_simp; (try with_reducible rfl))) | (refine tkN 13 (h := ?_))); (try simp only [Act.put, List.setIfInBounds_toArray, List.set_cons_zero, List.set_cons_succ]))
                          (refine wpAnyH_ready (rs := [14]) (by kernel_rfl) (by simp) ?_; refine AllReadyH.cons (by simp only [List.getElem?_toArray, List.getElem?_cons_succ, List.getElem?_cons_zero]; rfl) (fun K hK => ?_) AllReadyH.nil; go_simp; go_at_call 38; refine (HR6.out _).mono ?_; rintro e w' ⟨rfl, hb4⟩; refine hK.out _ _ (⟨cell_later hb4 hHeld.1, cell_later hb4 hHeld.2.1, hHeld.2.2.later hb4⟩) (fun hHeld => ?_); clear hK K; (try simp only [Act.put, List.setIfInBounds_toArray, List.set_cons_zero, List.set_cons_succ]))
                          ((first | (refine tkI 15 ?_ (hy := ?_) (h := ?_); rotate_left 1; · (intro w hSw; (try dsimp only at hSw); go_simp; (try with_reducible rfl))) | (refine tkN 15 (h := ?_))); (try simp only [Act.put, List.setIfInBounds_toArray, List.set_cons_zero, List.set_cons_succ]))
                          ((first | (refine tkI 16 ?_ (hy := ?_) (h := ?_); rotate_left 1; · (intro w hSw; (try dsimp only at hSw); go_simp; (try with_reducible rfl))) | (refine tkN 16 (h := ?_))); (try simp only [Act.put, List.setIfInBounds_toArray, List.set_cons_zero, List.set_cons_succ]))
                          ((first | (refine tkI 17 ?_ (hy := ?_) (h := ?_); rotate_left 1; · (intro w hSw; (try dsimp only at hSw); go_simp; (try with_reducible rfl))) | (refine tkN 17 (h := ?_))); (try simp only [Act.put, List.setIfInBounds_toArray, List.set_cons_zero, List.set_cons_succ]))
                          ((first | (refine tkI 18 ?_ (hy := ?_) (h := ?_); rotate_left 1; · (intro w hSw; (try dsimp only at hSw); go_simp; (try with_reducible rfl))) | (refine tkN 18 (h := ?_))); (try simp only [Act.put, List.setIfInBounds_toArray, List.set_cons_zero, List.set_cons_succ]))
                          ((first | (refine tkI 19 ?_ (hy := ?_) (h := ?_); rotate_left 1; · (intro w hSw; (try dsimp only at hSw); go_simp; (try with_reducible rfl))) | (refine tkN 19 (h := ?_))); (try simp only [Act.put, List.setIfInBounds_toArray, List.set_cons_zero, List.set_cons_succ]))
                          ((first | (refine tkI 20 ?_ (hy := ?_) (h := ?_); rotate_left 1; · (intro w hSw; (try dsimp only at hSw); go_simp; (try with_reducible rfl))) | (refine tkN 20 (h := ?_))); (try simp only [Act.put, List.setIfInBounds_toArray, List.set_cons_zero, List.set_cons_succ]))
                          ((first | (refine tkI 21 ?_ (hy := ?_) (h := ?_); rotate_left 1; · (intro w hSw; (try dsimp only at hSw); go_simp; (try with_reducible rfl))) | (refine tkN 21 (h := ?_))); (try simp only [Act.put, List.setIfInBounds_toArray, List.set_cons_zero, List.set_cons_succ]))
                          (refine wpAnyH_ready (rs := [22]) (by kernel_rfl) (by simp) ?_; refine AllReadyH.cons (by simp only [List.getElem?_toArray, List.getElem?_cons_succ, List.getElem?_cons_zero]; rfl) (fun K hK => ?_) AllReadyH.nil; go_simp; go_at_call 38; refine (HR9.out _).mono ?_; rintro e w' ⟨rfl, hb4⟩; refine hK.out _ _ (⟨cell_later hb4 hHeld.1, cell_later hb4 hHeld.2.1, hHeld.2.2.later hb4⟩) (fun hHeld => ?_); clear hK K; (try simp only [Act.put, List.setIfInBounds_toArray, List.set_cons_zero, List.set_cons_succ]))
                          ((first | (refine tkI 23 ?_ (hy := ?_) (h := ?_); rotate_left 1; · (intro w hSw; (try dsimp only at hSw); go_simp; (try with_reducible rfl))) | (refine tkN 23 (h := ?_))); (try simp only [Act.put, List.setIfInBounds_toArray, List.set_cons_zero, List.set_cons_succ]))
                          ((first | (refine tkI 24 ?_ (hy := ?_) (h := ?_); rotate_left 1; · (intro w hSw; (try dsimp only at hSw); go_simp; (try with_reducible rfl))) | (refine tkN 24 (h := ?_))); (try simp only [Act.put, List.setIfInBounds_toArray, List.set_cons_zero, List.set_cons_succ]))
                          (refine wpAnyH_done (by kernel_rfl) ?_ _)
                          go_wp2_with fail
                          go_meet
                          exact ⟨rfl, hHeld.2.2⟩
                        · (refine wp_region_held_drew (S := (fun W => W.cell? ⟨g, 7, none⟩ = some (.string k6) ∧ W.cell? ⟨g, 9, none⟩ = some (.string k9) ∧ RZ w g #[.int .i64 F, .string t0, .string t1, .string ⟨#[]⟩, .string ⟨#[]⟩, .string t3, .string t5, .string k6, .string k8, .string k9, .string t11, .string t13] W)) (by kernel_rfl) (show _ ∧ _ ∧ _ from ⟨HRZ4.out.2.1.cell 7, HRZ4.out.2.1.cell 9, HRZ4.out.drew⟩) (fun hHeld => ?_))
                          ((first | (refine tkI 0 ?_ (hy := ?_) (h := ?_); rotate_left 1; · (intro w hSw; (try dsimp only at hSw); go_simp; (try with_reducible rfl))) | (refine tkN 0 (h := ?_))); (try simp only [Act.put, List.setIfInBounds_toArray, List.set_cons_zero, List.set_cons_succ]))
                          ((first | (refine tkI 1 ?_ (hy := ?_) (h := ?_); rotate_left 1; · (intro w hSw; (try dsimp only at hSw); go_simp; (try with_reducible rfl))) | (refine tkN 1 (h := ?_))); (try simp only [Act.put, List.setIfInBounds_toArray, List.set_cons_zero, List.set_cons_succ]))
                          ((first | (refine tkI 2 ?_ (hy := ?_) (h := ?_); rotate_left 1; · (intro w hSw; (try dsimp only at hSw); go_simp; (try with_reducible rfl))) | (refine tkN 2 (h := ?_))); (try simp only [Act.put, List.setIfInBounds_toArray, List.set_cons_zero, List.set_cons_succ]))
                          ((first | (refine tkI 3 ?_ (hy := ?_) (h := ?_); rotate_left 1; · (intro w hSw; (try dsimp only at hSw); go_simp; (try with_reducible rfl))) | (refine tkN 3 (h := ?_))); (try simp only [Act.put, List.setIfInBounds_toArray, List.set_cons_zero, List.set_cons_succ]))
                          ((first | (refine tkI 4 ?_ (hy := ?_) (h := ?_); rotate_left 1; · (intro w hSw; (try dsimp only at hSw); go_simp; (try with_reducible rfl))) | (refine tkN 4 (h := ?_))); (try simp only [Act.put, List.setIfInBounds_toArray, List.set_cons_zero, List.set_cons_succ]))
                          ((first | (refine tkI 5 ?_ (hy := ?_) (h := ?_); rotate_left 1; · (intro w hSw; (try dsimp only at hSw); go_simp; (try with_reducible rfl))) | (refine tkN 5 (h := ?_))); (try simp only [Act.put, List.setIfInBounds_toArray, List.set_cons_zero, List.set_cons_succ]))
                          ((first | (refine tkI 6 ?_ (hy := ?_) (h := ?_); rotate_left 1; · (intro w hSw; (try dsimp only at hSw); go_simp; (try with_reducible rfl))) | (refine tkN 6 (h := ?_))); (try simp only [Act.put, List.setIfInBounds_toArray, List.set_cons_zero, List.set_cons_succ]))
                          ((first | (refine tkI 7 ?_ (hy := ?_) (h := ?_); rotate_left 1; · (intro w hSw; (try dsimp only at hSw); go_simp; (try with_reducible rfl))) | (refine tkN 7 (h := ?_))); (try simp only [Act.put, List.setIfInBounds_toArray, List.set_cons_zero, List.set_cons_succ]))
                          ((first | (refine tkI 8 ?_ (hy := ?_) (h := ?_); rotate_left 1; · (intro w hSw; (try dsimp only at hSw); go_simp; (try with_reducible rfl))) | (refine tkN 8 (h := ?_))); (try simp only [Act.put, List.setIfInBounds_toArray, List.set_cons_zero, List.set_cons_succ]))
                          ((first | (refine tkI 9 ?_ (hy := ?_) (h := ?_); rotate_left 1; · (intro w hSw; (try dsimp only at hSw); go_simp; (try with_reducible rfl))) | (refine tkN 9 (h := ?_))); (try simp only [Act.put, List.setIfInBounds_toArray, List.set_cons_zero, List.set_cons_succ]))
                          ((first | (refine tkI 10 ?_ (hy := ?_) (h := ?_); rotate_left 1; · (intro w hSw; (try dsimp only at hSw); go_simp; (try with_reducible rfl))) | (refine tkN 10 (h := ?_))); (try simp only [Act.put, List.setIfInBounds_toArray, List.set_cons_zero, List.set_cons_succ]))
                          ((first | (refine tkI 11 ?_ (hy := ?_) (h := ?_); rotate_left 1; · (intro w hSw; (try dsimp only at hSw); go_simp; (try with_reducible rfl))) | (refine tkN 11 (h := ?_))); (try simp only [Act.put, List.setIfInBounds_toArray, List.set_cons_zero, List.set_cons_succ]))
                          ((first | (refine tkI 12 ?_ (hy := ?_) (h := ?_); rotate_left 1; · (intro w hSw; (try dsimp only at hSw); go_simp; (try with_reducible rfl))) | (refine tkN 12 (h := ?_))); (try simp only [Act.put, List.setIfInBounds_toArray, List.set_cons_zero, List.set_cons_succ]))
                          ((first | (refine tkI 13 ?_ (hy := ?_) (h := ?_); rotate_left 1; · (intro w hSw; (try dsimp only at hSw); go_simp; (try with_reducible rfl))) | (refine tkN 13 (h := ?_))); (try simp only [Act.put, List.setIfInBounds_toArray, List.set_cons_zero, List.set_cons_succ]))
                          (refine wpAnyH_ready (rs := [14]) (by kernel_rfl) (by simp) ?_; refine AllReadyH.cons (by simp only [List.getElem?_toArray, List.getElem?_cons_succ, List.getElem?_cons_zero]; rfl) (fun K hK => ?_) AllReadyH.nil; go_simp; go_at_call 38; refine (HR6.out _).mono ?_; rintro e w' ⟨rfl, hb4⟩; refine hK.out _ _ (⟨cell_later hb4 hHeld.1, cell_later hb4 hHeld.2.1, hHeld.2.2.later hb4⟩) (fun hHeld => ?_); clear hK K; (try simp only [Act.put, List.setIfInBounds_toArray, List.set_cons_zero, List.set_cons_succ]))
                          ((first | (refine tkI 15 ?_ (hy := ?_) (h := ?_); rotate_left 1; · (intro w hSw; (try dsimp only at hSw); go_simp; (try with_reducible rfl))) | (refine tkN 15 (h := ?_))); (try simp only [Act.put, List.setIfInBounds_toArray, List.set_cons_zero, List.set_cons_succ]))
                          ((first | (refine tkI 16 ?_ (hy := ?_) (h := ?_); rotate_left 1; · (intro w hSw; (try dsimp only at hSw); go_simp; (try with_reducible rfl))) | (refine tkN 16 (h := ?_))); (try simp only [Act.put, List.setIfInBounds_toArray, List.set_cons_zero, List.set_cons_succ]))
                          ((first | (refine tkI 17 ?_ (hy := ?_) (h := ?_); rotate_left 1; · (intro w hSw; (try dsimp only at hSw); go_simp; (try with_reducible rfl))) | (refine tkN 17 (h := ?_))); (try simp only [Act.put, List.setIfInBounds_toArray, List.set_cons_zero, List.set_cons_succ]))
                          ((first | (refine tkI 18 ?_ (hy := ?_) (h := ?_); rotate_left 1; · (intro w hSw; (try dsimp only at hSw); go_simp; (try with_reducible rfl))) | (refine tkN 18 (h := ?_))); (try simp only [Act.put, List.setIfInBounds_toArray, List.set_cons_zero, List.set_cons_succ]))
                          ((first | (refine tkI 19 ?_ (hy := ?_) (h := ?_); rotate_left 1; · (intro w hSw; (try dsimp only at hSw); go_simp; (try with_reducible rfl))) | (refine tkN 19 (h := ?_))); (try simp only [Act.put, List.setIfInBounds_toArray, List.set_cons_zero, List.set_cons_succ]))
                          ((first | (refine tkI 20 ?_ (hy := ?_) (h := ?_); rotate_left 1; · (intro w hSw; (try dsimp only at hSw); go_simp; (try with_reducible rfl))) | (refine tkN 20 (h := ?_))); (try simp only [Act.put, List.setIfInBounds_toArray, List.set_cons_zero, List.set_cons_succ]))
                          ((first | (refine tkI 21 ?_ (hy := ?_) (h := ?_); rotate_left 1; · (intro w hSw; (try dsimp only at hSw); go_simp; (try with_reducible rfl))) | (refine tkN 21 (h := ?_))); (try simp only [Act.put, List.setIfInBounds_toArray, List.set_cons_zero, List.set_cons_succ]))
                          (refine wpAnyH_ready (rs := [22]) (by kernel_rfl) (by simp) ?_; refine AllReadyH.cons (by simp only [List.getElem?_toArray, List.getElem?_cons_succ, List.getElem?_cons_zero]; rfl) (fun K hK => ?_) AllReadyH.nil; go_simp; go_at_call 38; refine (HR9.out _).mono ?_; rintro e w' ⟨rfl, hb4⟩; refine hK.out _ _ (⟨cell_later hb4 hHeld.1, cell_later hb4 hHeld.2.1, hHeld.2.2.later hb4⟩) (fun hHeld => ?_); clear hK K; (try simp only [Act.put, List.setIfInBounds_toArray, List.set_cons_zero, List.set_cons_succ]))
                          ((first | (refine tkI 23 ?_ (hy := ?_) (h := ?_); rotate_left 1; · (intro w hSw; (try dsimp only at hSw); go_simp; (try with_reducible rfl))) | (refine tkN 23 (h := ?_))); (try simp only [Act.put, List.setIfInBounds_toArray, List.set_cons_zero, List.set_cons_succ]))
                          ((first | (refine tkI 24 ?_ (hy := ?_) (h := ?_); rotate_left 1; · (intro w hSw; (try dsimp only at hSw); go_simp; (try with_reducible rfl))) | (refine tkN 24 (h := ?_))); (try simp only [Act.put, List.setIfInBounds_toArray, List.set_cons_zero, List.set_cons_succ]))
                          (refine wpAnyH_done (by kernel_rfl) ?_ _)
                          go_wp2_with fail
                          go_meet
                          exact ⟨rfl, hHeld.2.2⟩
                    case rest =>
                      obtain ⟨rfl, hrz⟩ := hcut
                      have HRZ5 := Lib.hid hrz
                      clear hrz HR3 HR6 HR9
                      obtain ⟨q23, hq23⟩ : ∃ q, ((d4 || r3) && (r6 && r9)) = q := ⟨_, rfl⟩
                      rw [hq23] at HCHK ⊢
                      clear hq23
                      cases q23
                      · have HE := Lib.hid (show Zn.prsE (txts R) = 13 from by rw [HPE2.out, if_pos (by first | (rw [HCHK.out]; done) | (rw [HCHK.out]; rfl) | (rw [HCHK.out]; simp; done))])
                        obtain ⟨x0, x1, x2, x3, x4, x5, x6, x7, x8, x9, x10, x11⟩ := HRZ5.out.1.cells
                        have xf := fun i => ZBox.free HRZ5.out.1 i
                        go_wp2_with fail
                        exact rparse_ret (z := Zn.Z.zero) rfl rfl HRZ5.out.1 HRZ5.out.2.2.1 (Zn.prs_fail HE.out (by omega)) HE.out
                      rw [Bool.true_and] at HCHK
                      have hwl : Zn.wLine F ≤ 44 ∧ 30 ≤ Zn.wLine F := by unfold Zn.wLine; split; · omega
                                                                         split <;> omega
                      have zs1 : 30 ≤ SB.size := by have := HZB.out; omega
                      have zs2 : SB.size ≤ 44 := by have := HZB.out; omega
                      have HZ1 := Lib.hid (And.intro zs1 zs2)
                      have e11 : t11.toList.isEmpty = decide (Zn.tr (Zn.fld F (txts R) 11) = []) := by
                        rw [HTT11.out, toList_of]; cases Zn.tr (Zn.fld F (txts R) 11) <;> rfl
                      obtain ⟨q11, hq11⟩ : ∃ q, decide (Zn.tr (Zn.fld F (txts R) 11) = []) = q := ⟨_, rfl⟩
                      obtain ⟨r11, hr11⟩ : ∃ q, decide (Zn.fld F (txts R) 12 = Zn.dg (Zn.fld F (txts R) 11)) = q := ⟨_, rfl⟩
                      obtain ⟨d12, hd12⟩ : ∃ q, decide (Zn.fld F (txts R) 12 = [60]) = q := ⟨_, rfl⟩
                      have hchk := HCHK.out
                      rw [hq11, hr11, hd12] at hchk
                      rw [hq11] at e11
                      have HE11 := Lib.hid e11
                      have hR11 : F = 3 → ∃ h : 42 < SB.size, (∀ W, Calls Tryz.prog 38 #[.string k11, .int .u8 ((SB[42]'h).toNat : Int)] W fun e w' => e = .returned (.bool r11) ∧ Below W.heap.size W w') ∧ (((SB[42]'h).toNat : Int) == 60) = d12 := fun h3 => by
                        have h : 42 < SB.size := by rw [HZB.out, h3]; show 42 < 44; omega
                        have b12 : Zn.fld F (txts R) 12 = [SB[42]'h] := by subst h3; exact fld_byte 3 12 1 42 HB1.out rfl h
                        refine ⟨h, fun W => ?_, ?_⟩
                        · have := rright k11 _ (SB[42]'h) HK11.out (HV2.out 11) (Nat.le_trans (HFL.out 11 (by omega)) (by omega)) W
                          rw [← b12, hr11] at this; exact this
                        · rw [← hd12, b12, Bool.eq_iff_iff, beq_iff_eq, decide_eq_true_eq]
                          constructor
                          · intro h; have : SB[42] = 60 := by apply UInt8.toNat_inj.1; show _ = 60; omega
                            rw [this]
                          · intro h; injection h with h _; rw [h]; rfl
                      have HR11 := Lib.hid hR11
                      have HC2 := Lib.hid hchk
                      clear hR11 hchk hq11 hr11 hd12 e11 zs1 zs2 hwl HCHK
                      go_upto_region 25 with fail
                      go_cut [193] from 174 to 192 (fun v wx => v = .bool (!((!decide (F = 3)) || (r11 || (q11 && d12)))) ∧ RZ w g #[.int .i64 F, .string t0, .string t1, .string ⟨#[]⟩, .string ⟨#[]⟩, .string t3, .string t5, .string k6, .string k8, .string k9, .string t11, .string t13] wx)
                      case first =>
                        by_cases hf3 : F = 3
                        · obtain ⟨h42, hcall, hd⟩ := HR11.out hf3
                          have HCL := Lib.hid hcall; have HDD := Lib.hid hd
                          have ef : ((F : Int) == 3) = true := by rw [hf3]; rfl
                          have edf := Lib.hid (decide_eq_true hf3)
                          have HF3 := Lib.hid hf3
                          clear hcall hd hf3
                          go_wp2_with fail
                          refine (HCL.out _).mono ?_; rintro e wd ⟨rfl, hb⟩
                          have HRZ6 := Lib.hid (HRZ5.out.later hb)
                          clear hb
                          cases r11
                          · have y10 := HRZ6.out.2.1.cell 10
                            have e11 := HE11.out
                            have e12 := HDD.out
                            cases q11
                            · go_wp2_with fail
                              go_meet
                              exact ⟨by rw [edf.out]; rfl, HRZ6.out⟩
                            · cases d12
                              · go_wp2_with fail
                                go_meet
                                exact ⟨by rw [edf.out]; rfl, HRZ6.out⟩
                              · go_wp2_with fail
                                go_meet
                                exact ⟨by rw [edf.out]; rfl, HRZ6.out⟩
                          · go_wp2_with fail
                            go_meet
                            exact ⟨by rw [edf.out]; rfl, HRZ6.out⟩
                        · have ef : ((F : Int) == 3) = false := by rw [beq_eq_false_iff_ne]; omega
                          have edf := Lib.hid (decide_eq_false hf3)
                          clear hf3
                          go_wp2_with fail
                          go_meet
                          exact ⟨by rw [edf.out]; rfl, HRZ5.out⟩
                      case rest =>
                        obtain ⟨rfl, hrz⟩ := hcut
                        have HRZ5 := Lib.hid hrz
                        clear hrz HR11 HE11
                        obtain ⟨q25, hq25⟩ : ∃ q, ((!decide (F = 3)) || (r11 || (q11 && d12))) = q := ⟨_, rfl⟩
                        have hchk := HC2.out
                        rw [hq25] at hchk ⊢
                        have HCHK := Lib.hid hchk
                        clear hq25 hchk HC2
                        cases q25
                        · have HE := Lib.hid (show Zn.prsE (txts R) = 13 from by rw [HPE2.out, if_pos (by first | (rw [HCHK.out]; done) | (rw [HCHK.out]; rfl) | (rw [HCHK.out]; simp; done))])
                          obtain ⟨x0, x1, x2, x3, x4, x5, x6, x7, x8, x9, x10, x11⟩ := HRZ5.out.1.cells
                          have xf := fun i => ZBox.free HRZ5.out.1 i
                          go_wp2_with fail
                          exact rparse_ret (z := Zn.Z.zero) rfl rfl HRZ5.out.1 HRZ5.out.2.2.1 (Zn.prs_fail HE.out (by omega)) HE.out
                        rw [Bool.true_and] at HCHK
                        have zs1 := HZ1.out.1; have zs2 := HZ1.out.2
                        have hle : SB.size - 1 < SB.size := by omega
                        have b14 : Zn.fld F (txts R) 14 = [SB[SB.size - 1]'hle] := by
                          have key : ∀ n (h : n < SB.size), n = SB.size - 1 → [SB[n]'h] = [SB[SB.size - 1]'hle] := fun n h e => by subst e; rfl
                          have hz := HZB.out
                          rcases HF13.out with rfl | rfl | rfl
                          · rw [← key 29 (by rw [hz]; show 29 < 30; omega) (by rw [hz]; rfl)]; exact fld_byte 1 14 1 29 HB1.out rfl _
                          · rw [← key 35 (by rw [hz]; show 35 < 36; omega) (by rw [hz]; rfl)]; exact fld_byte 2 14 1 35 HB1.out rfl _
                          · rw [← key 43 (by rw [hz]; show 43 < 44; omega) (by rw [hz]; rfl)]; exact fld_byte 3 14 1 43 HB1.out rfl _
                        have hcv := comp_ok F _ HSH.out HV.out
                        obtain ⟨r14, hr14⟩ : ∃ q, decide ([SB[SB.size - 1]'hle] = Zn.dg (Zn.comp F (txts R))) = q := ⟨_, rfl⟩
                        have hR14 := fun W => rright al _ (SB[SB.size - 1]'hle) HAL.out hcv.1 (by have := hcv.2; omega) W
                        have hchk := HCHK.out
                        rw [hr14] at hR14; rw [b14, hr14] at hchk
                        have HR14 := Lib.hid hR14
                        have HC3 := Lib.hid hchk
                        have hsub : ((SB.size : Int) - 1).toNat = SB.size - 1 := by omega
                        clear hR14 hchk hcv b14 hr14 HCHK
                        go_wp2_with fail
                        refine (HR14.out _).mono ?_; rintro e wd ⟨rfl, hb⟩
                        have HRZ6 := Lib.hid (HRZ5.out.later hb)
                        clear hb HRZ5
                        have HRZ5 := HRZ6
                        have HCHK := HC3
                        clear HRZ6
                        cases r14
                        · have HE := Lib.hid (show Zn.prsE (txts R) = 13 from by rw [HPE2.out, if_pos (by first | (rw [HCHK.out]; done) | (rw [HCHK.out]; rfl) | (rw [HCHK.out]; simp; done))])
                          obtain ⟨x0, x1, x2, x3, x4, x5, x6, x7, x8, x9, x10, x11⟩ := HRZ5.out.1.cells
                          have xf := fun i => ZBox.free HRZ5.out.1 i
                          go_wp2_with fail
                          exact rparse_ret (z := Zn.Z.zero) rfl rfl HRZ5.out.1 HRZ5.out.2.2.1 (Zn.prs_fail HE.out (by omega)) HE.out
                        have hPE := HPE2.out
                        rw [if_neg (by rw [HC3.out]; simp)] at hPE
                        have HPE3 := Lib.hid hPE
                        clear hPE HPE2 HC3 HCHK HR14
                        have e4 : (k4.toList == [60]) = d4 := by rw [← HD4.out]; exact eq_bytes HK4.out [60]
                        cases d4
                        · have hnn : Zn.nums F (txts R) = (Zn.tr (Zn.fld F (txts R) 3), Zn.tr (Zn.fld F (txts R) 11), 0) := by
                            unfold Zn.nums; rw [if_pos (of_decide_eq_false HD4.out)]
                          have hPE := HPE3.out
                          rw [hnn] at hPE
                          simp only at hPE
                          rw [if_neg (by omega)] at hPE
                          have HPE4 := Lib.hid hPE; have HNN := Lib.hid hnn; have H1 := HTT3; have H2 := HTT11
                          clear hPE hnn HPE3
                          have z2 : k2.size ≤ 44 := by rw [HK2.out, str_size]; exact HFL.out 2 (by omega)
                          obtain ⟨⟨SU, GI, FU, SE⟩, hsp⟩ : ∃ q, Opt.splV k2 = q := ⟨_, rfl⟩
                          have hcs := fun W => rsplit k2 W (by omega)
                          have hss := splV_size2 k2
                          rw [hsp] at hss
                          simp only [hsp] at hcs
                          unfold Opt.splR at hcs
                          simp only at hcs hss
                          have hPE := HPE4.out
                          rw [← HK2.out, hsp] at hPE
                          simp only at hPE
                          have HPE5 := Lib.hid hPE
                          have HSP := Lib.hid hcs; have HSV := Lib.hid hsp; have HSS := Lib.hid (And.intro (Nat.le_trans hss.1 z2) (Nat.le_trans hss.2 z2))
                          clear hcs hss hPE hsp z2 HPE4
                          go_wp2_with fail
                          refine (HSP.out _).mono ?_; rintro e ws ⟨rfl, hb⟩
                          have HRZ6 := Lib.hid (HRZ5.out.later hb)
                          clear hb HRZ5
                          by_cases hS : SE ≠ 0
                          · have HE := Lib.hid (show Zn.prsE (txts R) = SE from by rw [HPE5.out, if_pos hS])
                            obtain ⟨x0, x1, x2, x3, x4, x5, x6, x7, x8, x9, x10, x11⟩ := HRZ6.out.1.cells
                            have xf := fun i => ZBox.free HRZ6.out.1 i
                            have e1 : (SE != 0) = true := by rw [bne_iff_ne]; exact hS
                            have HN := Lib.hid hS
                            clear hS
                            go_wp2_with fail
                            exact rparse_ret (z := Zn.Z.zero) rfl rfl HRZ6.out.1 HRZ6.out.2.2.1 (Zn.prs_fail HE.out HN.out) HE.out
                          have hPE := HPE5.out
                          rw [if_neg hS] at hPE
                          obtain rfl : SE = 0 := by omega
                          have HPE6 := Lib.hid hPE
                          clear hPE HPE5 hS
                          have y3 := HRZ6.out.2.1.cell 3; have f3 := HRZ6.out.2.1.free 3; have y4 := HRZ6.out.2.1.cell 4; have f4 := HRZ6.out.2.1.free 4
                          go_upto_region 43 with fail
                          have hz3 : RZ w g #[.int .i64 F, .string t0, .string t1, .string SU, .string GI, .string t3, .string t5, .string k6, .string k8, .string k9, .string t11, .string t13] ((ws.setCell ⟨g, 3, none⟩ (.string SU)).setCell ⟨g, 4, none⟩ (.string GI)) := (HRZ6.out.set 3 (.string SU)).set 4 (.string GI)
                          clear y3 f3 y4 f4
                          generalize (ws.setCell ⟨g, 3, none⟩ (.string SU)).setCell ⟨g, 4, none⟩ (.string GI) = wt at hz3 ⊢
                          obtain ⟨Z, hZ⟩ : ∃ Z : Zn.Z, Z = ⟨F, t0, t1, SU, GI, t3, t5, k6, k8, k9, t11, t13⟩ := ⟨_, rfl⟩
                          have hZP : Zn.prsZ F (txts R) = Z := by
                            unfold Zn.prsZ
                            rw [HNN.out, ← HK2.out, HSV.out, ← HTT0.out, ← HTT1.out, ← HTT5.out, ← HK6.out, ← HK8.out, ← HK9.out, ← HTT13.out, hZ, H1.out, H2.out]
                          have hfit : Z.fits maxLen := by
                            have hnn := nums_len F HF1.out _ HSH.out
                            rw [HNN.out] at hnn
                            have ht : ∀ l : List UInt8, (Zn.tr l).length ≤ l.length := fun l => Opt.trim_le l
                            have z0 : t0.size ≤ 44 := by rw [HTT0.out, str_size]; exact Nat.le_trans (ht _) (HFL.out 0 (by omega))
                            have z1 : t1.size ≤ 44 := by rw [HTT1.out, str_size]; exact Nat.le_trans (ht _) (HFL.out 1 (by omega))
                            have z5 : t5.size ≤ 44 := by rw [HTT5.out, str_size]; exact Nat.le_trans (ht _) (HFL.out 5 (by omega))
                            have z13 : t13.size ≤ 44 := by rw [HTT13.out, str_size]; exact Nat.le_trans (ht _) (HFL.out 13 (by omega))
                            have z6 : k6.size ≤ 44 := by rw [HK6.out, str_size]; exact HFL.out 6 (by omega)
                            have z8 : k8.size ≤ 44 := by rw [HK8.out, str_size]; exact HFL.out 8 (by omega)
                            have z9 : k9.size ≤ 44 := by rw [HK9.out, str_size]; exact HFL.out 9 (by omega)
                            have zn1 : t3.size ≤ 88 := by rw [H1.out, str_size]; exact hnn.1
                            have zn2 : t11.size ≤ 88 := by rw [H2.out, str_size]; exact hnn.2
                            have zs := HSS.out
                            have e : (88 : Nat) ≤ maxLen := by unfold maxLen; omega
                            rw [hZ]
                            refine ⟨?_, ?_, ?_, ?_, ?_, ?_, ?_, ?_, ?_, ?_, ?_⟩ <;> first | (show t0.size ≤ _; omega) | (show t1.size ≤ _; omega) | (show SU.size ≤ _; omega) | (show GI.size ≤ _; omega) | (show t3.size ≤ _; omega) | (show t5.size ≤ _; omega) | (show k6.size ≤ _; omega) | (show k8.size ≤ _; omega) | (show k9.size ≤ _; omega) | (show t11.size ≤ _; omega) | (show t13.size ≤ _; omega)
                          have hbz : ZBox wt g Z := by rw [hZ]; exact hz3.2.1
                          have HBZ := Lib.hid hbz; have HRZ7 := Lib.hid hz3
                          have HVV := Lib.hid (show ∀ W, Calls Tryz.prog 24 #[.agg #[.int .i64 Z.fmt, .string Z.kind, .string Z.state, .string Z.sur, .string Z.giv, .string Z.num, .string Z.nat, .string Z.birth, .string Z.sex, .string Z.exp, .string Z.opt, .string Z.sec]] W fun e w' => e = .returned (.int .i64 (Zn.vldE Z)) ∧ Below W.heap.size W w' from fun W => rvalidZ Z W hfit)
                          have hPE := HPE6.out
                          rw [hZP] at hPE
                          obtain ⟨vE, hvE⟩ : ∃ q, Zn.vldE Z = q := ⟨_, rfl⟩
                          rw [hvE] at hPE HVV
                          have HPE8 := Lib.hid hPE; have HZP := Lib.hid hZP
                          clear hz3 hbz hPE hvE HPE6 hZP hfit hZ
                          obtain ⟨y0, y1, y2, y3, y4, y5, y6, y7, y8, y9, y10, y11⟩ := HBZ.out.cells
                          go_wp2_with fail
                          refine (HVV.out _).mono ?_; rintro e wu ⟨rfl, hb⟩
                          have HRZ8 := Lib.hid (HRZ7.out.later hb)
                          have HBZ2 := Lib.hid (HBZ.out.later hb)
                          clear hb y0 y1 y2 y3 y4 y5 y6 y7 y8 y9 y10 y11
                          obtain ⟨x0, x1, x2, x3, x4, x5, x6, x7, x8, x9, x10, x11⟩ := HRZ8.out.1.cells
                          have xf := fun i => ZBox.free HRZ8.out.1 i
                          by_cases hE : vE ≠ 0
                          · have HE := Lib.hid (show Zn.prsE (txts R) = vE from HPE8.out)
                            have e1 : (vE != 0) = true := by rw [bne_iff_ne]; exact hE
                            have HN := Lib.hid hE
                            clear hE
                            go_wp2_with fail
                            exact rparse_ret (z := Zn.Z.zero) rfl rfl HRZ8.out.1 HRZ8.out.2.2.1 (Zn.prs_fail HE.out HN.out) HE.out
                          obtain rfl : vE = 0 := by omega
                          have HE := Lib.hid (show Zn.prsE (txts R) = 0 from HPE8.out)
                          have HVZ := Lib.hid ((HPV.out HE.out).trans HZP.out)
                          clear hE
                          obtain ⟨y0, y1, y2, y3, y4, y5, y6, y7, y8, y9, y10, y11⟩ := HBZ2.out.cells
                          go_wp2_with fail
                          exact rparse_ret (z := Z) rfl rfl HRZ8.out.1 HRZ8.out.2.2.1 HVZ.out HE.out
                        · obtain ⟨l11, hl11⟩ : ∃ q, Zn.fld F (txts R) 11 = q := ⟨_, rfl⟩
                          have z11 : k11.size = l11.length := by rw [HK11.out, str_size, hl11]
                          have hk11 : k11 = ⟨l11.toArray⟩ := by rw [HK11.out, hl11]
                          have z11b : l11.length ≤ 44 := by rw [← hl11]; exact HFL.out 11 (by omega)
                          have hge : ∀ j (h : j < k11.size), l11.getD j 0 = k11[j]'h := fun j h => by
                            subst hk11
                            rw [Opt.getD_eq _ _ (by rw [str_size] at h; exact h)]; rfl
                          have HL11 := Lib.hid hl11; have HK11L := Lib.hid hk11; have HGE := Lib.hid hge; have HZ11 := Lib.hid z11
                          have z11c : k11.size ≤ 44 := by omega
                          have z3c : k3.size ≤ 44 := by rw [HK3.out, str_size]; exact HFL.out 3 (by omega)
                          clear hl11 hk11 hge z11 z11b
                          go_wp2_with fail
                          go_loop [16] (fun i => ∃ k : Nat, k ≤ k11.size ∧ i = .int .i64 k ∧ ∀ j, j < k → l11.getD j 0 ≠ 60) (fun i => k11.size - (intOf i).toNat)
                          case atStart => exact ⟨0, Nat.zero_le _, rfl, fun j h => absurd h (by omega)⟩
                          case round =>
                            obtain ⟨k, hk, rfl, hno⟩ := hrel
                            have HNO := Lib.hid hno
                            clear hno
                            by_cases hlt : k < k11.size
                            · have hgk := HGE.out k hlt
                              by_cases hx : k11[k]'hlt = 60
                              · have ex : ((((k11[k]'hlt).toNat : Int)) != 60) = false := by rw [hx]; rfl
                                have HCUT := Lib.hid (show Lib.cut (Zn.fld F (txts R) 11) [60] = (l11.take k, l11.drop (k + 1), true) from by rw [HL11.out]; exact Zn.cut_hit k (by have := HZ11.out; omega) HNO.out (by rw [hgk]; exact hx))
                                have hlk : (l11.take k).length = k := by rw [List.length_take]; have := HZ11.out; omega
                                have HLK := Lib.hid hlk
                                clear hx hgk hlk
                                by_cases hf3 : F = 3
                                · have ef : ((F : Int) == 3) = true := by rw [hf3]; rfl
                                  have HF3 := Lib.hid hf3
                                  clear hf3
                                  have hPE := HPE3.out
                                  rw [show Zn.nums F (txts R) = ([], [], 1) from by
                                    unfold Zn.nums
                                    rw [if_neg (fun h => h (of_decide_eq_true HD4.out)), HCUT.out, if_pos (.inr (.inr HF3.out))]] at hPE
                                  have HE := Lib.hid (show Zn.prsE (txts R) = 1 from by rw [hPE, if_pos (by show (1 : Int) ≠ 0; omega)])
                                  clear hPE
                                  obtain ⟨x0, x1, x2, x3, x4, x5, x6, x7, x8, x9, x10, x11⟩ := HRZ5.out.1.cells
                                  have xf := fun i => ZBox.free HRZ5.out.1 i
                                  go_wp2_with fail
                                  exact rparse_ret (z := Zn.Z.zero) rfl rfl HRZ5.out.1 HRZ5.out.2.2.1 (Zn.prs_fail HE.out (by omega)) HE.out
                                have ef : ((F : Int) == 3) = false := by rw [beq_eq_false_iff_ne]; omega
                                by_cases hk2 : k < 2
                                · have hPE := HPE3.out
                                  rw [show Zn.nums F (txts R) = ([], [], 1) from by
                                    unfold Zn.nums
                                    rw [if_neg (fun h => h (of_decide_eq_true HD4.out)), HCUT.out, if_pos (.inl (by rw [HLK.out]; exact hk2))]] at hPE
                                  have HE := Lib.hid (show Zn.prsE (txts R) = 1 from by rw [hPE, if_pos (by show (1 : Int) ≠ 0; omega)])
                                  clear hPE
                                  obtain ⟨x0, x1, x2, x3, x4, x5, x6, x7, x8, x9, x10, x11⟩ := HRZ5.out.1.cells
                                  have xf := fun i => ZBox.free HRZ5.out.1 i
                                  go_wp2_with fail
                                  exact rparse_ret (z := Zn.Z.zero) rfl rfl HRZ5.out.1 HRZ5.out.2.2.1 (Zn.prs_fail HE.out (by omega)) HE.out
                                have hcon : ¬ ((l11.take k).length < 2 ∨ true = false ∨ F = 3) := by
                                  rintro (h | h | h)
                                  · rw [HLK.out] at h; omega
                                  · cases h
                                  · exact hf3 h
                                have HCON := Lib.hid hcon
                                clear hcon hf3
                                have hkl : ((k : Int) == (k11.size : Int)) = false := by rw [beq_eq_false_iff_ne]; omega
                                have hk2' : (2 : Int) ≤ (k : Int) := by omega
                                obtain ⟨n1, hn1⟩ : ∃ q, k3 ++ k11.extract 0 (k - 1) = q := ⟨_, rfl⟩
                                obtain ⟨rr, hrr⟩ : ∃ q, k11.extract (k + 1) k11.size = q := ⟨_, rfl⟩
                                obtain ⟨n2, hn2⟩ : ∃ q : ByteArray, q = ⟨(Zn.tr (l11.drop (k + 1))).toArray⟩ := ⟨_, rfl⟩
                                have hdl : (l11.take k).dropLast = l11.take (k - 1) := by
                                  rw [List.dropLast_eq_take, HLK.out, List.take_take, Nat.min_eq_left (by omega)]
                                have H1 := Lib.hid (show n1 = ⟨(Zn.fld F (txts R) 3 ++ (l11.take k).dropLast).toArray⟩ from by
                                  rw [← hn1, HK3.out, ext_of HK11L.out, str_add, hdl, List.drop_zero, Nat.sub_zero])
                                have H2 := Lib.hid hn2
                                have hrrl : rr = ⟨(l11.drop (k + 1)).toArray⟩ := by
                                  rw [← hrr, ext_of HK11L.out, List.take_of_length_le (by rw [List.length_drop]; have := HZ11.out; omega)]
                                have HTN := Lib.hid (tr_run rr _ n2 hrrl hn2 (by rw [List.length_drop]; have := HZ11.out; omega))
                                have hkm : k - 1 < k11.size := by omega
                                have hv1 : Opt.valid (Zn.fld F (txts R) 3 ++ (l11.take k).dropLast) = true := valid_app (HV2.out 3) (List.all_eq_true.2 fun x hx => List.all_eq_true.1 (by have := HV2.out 11; rw [HL11.out] at this; exact this) x (List.mem_of_mem_take (List.dropLast_subset _ hx)))
                                have hz1 : (Zn.fld F (txts R) 3 ++ (l11.take k).dropLast).length ≤ 1000 := by
                                  rw [List.length_append, List.length_dropLast, HLK.out]; have := HFL.out 3 (by omega); omega
                                obtain ⟨rN, hrN⟩ : ∃ q, decide ([k11[k - 1]'hkm] = Zn.dg (Zn.fld F (txts R) 3 ++ (l11.take k).dropLast)) = q := ⟨_, rfl⟩
                                have hRN := fun W => rright n1 _ (k11[k - 1]'hkm) H1.out hv1 hz1 W
                                rw [hrN] at hRN
                                have HRN := Lib.hid hRN
                                have hlast : (l11.take k).drop ((l11.take k).length - 1) = [k11[k - 1]'hkm] := by
                                  rw [HLK.out, List.drop_take, show k - (k - 1) = 1 by omega, ← HGE.out (k - 1) hkm, List.drop_eq_getElem_cons (by have := HZ11.out; omega), Opt.getD_eq _ _ (by have := HZ11.out; omega)]; rfl
                                have HRNE := Lib.hid (show decide (Zn.dg (Zn.fld F (txts R) 3 ++ (l11.take k).dropLast) = (l11.take k).drop ((l11.take k).length - 1)) = rN from by
                                  rw [hlast, ← hrN, Bool.eq_iff_iff, decide_eq_true_eq, decide_eq_true_eq]; exact ⟨fun h => h.symm, fun h => h.symm⟩)
                                clear hn2 hdl hrrl hv1 hz1 hrN hRN hlast
                                have y5 := HRZ5.out.2.1.cell 5; have f5 := HRZ5.out.2.1.free 5; have y10 := HRZ5.out.2.1.cell 10; have f10 := HRZ5.out.2.1.free 10
                                go_upto_region 36 with fail
                                have pE : (k11.extract 0 (k - 1)).size = k - 1 := ext_size _ _ _ _ (by omega)
                                have g0 : k3.size + (k - 1) ≤ 9223372036854775807 := by omega
                                have g9 : ¬ (9223372036854775807 < k3.size + (k - 1)) := by omega
                                have g1 : IntKind.i64.wrap ((k : Int) - 1) = (k : Int) - 1 := IntWalk.i64_in _ (by omega)
                                have g2 : (0 : Int) ≤ (k : Int) - 1 := by omega
                                have ga : (1 : Int) ≤ (k : Int) := by omega
                                have g3 : ((k : Int) - 1).toNat = k - 1 := by omega
                                have g4 : (k : Int) - 1 ≤ (k11.size : Int) := by omega
                                have g5 : IntKind.i64.wrap ((k : Int) + 1) = (k : Int) + 1 := IntWalk.i64_in _ (by omega)
                                have g6 : (0 : Int) ≤ (k : Int) + 1 := by omega
                                have g7 : ((k : Int) + 1).toNat = k + 1 := by omega
                                have g8 : (k : Int) + 1 ≤ (k11.size : Int) := by omega
                                refine wp_region_any (by kernel_rfl) ?_
                                (try (change wpAny _ _ _ _ _ _ _ (World.drew _)))
                                (refine wpAny_take (i := 0) (v := ?_) (by simp only [List.getElem?_toArray, List.getElem?_cons_zero]; rfl) (by kernel_rfl) (by kernel_rfl) (by kernel_rfl) (by exact fun _ _ _ h => h) (Or.inl ⟨by rfl, ?_⟩) ?_; rotate_left 1; · (intro w; go_simp; (try with_reducible rfl)))
                                (refine wpAny_take (i := 1) (v := ?_) (by simp only [List.getElem?_toArray, List.getElem?_cons_succ, List.getElem?_cons_zero]; rfl) (by kernel_rfl) (by kernel_rfl) (by kernel_rfl) (by exact fun _ _ _ h => h) (Or.inl ⟨by rfl, ?_⟩) ?_; rotate_left 1; · (intro w; go_simp; (try with_reducible rfl)))
                                (refine wpAny_take (i := 2) (v := ?_) (by simp only [List.getElem?_toArray, List.getElem?_cons_succ, List.getElem?_cons_zero]; rfl) (by kernel_rfl) (by kernel_rfl) (by kernel_rfl) (by exact fun _ _ _ h => h) (Or.inl ⟨by rfl, ?_⟩) ?_; rotate_left 1; · (intro w; go_simp; (try with_reducible rfl)))
                                (refine wpAny_take (i := 3) (v := ?_) (by simp only [List.getElem?_toArray, List.getElem?_cons_succ, List.getElem?_cons_zero]; rfl) (by kernel_rfl) (by kernel_rfl) (by kernel_rfl) (by exact fun _ _ _ h => h) (Or.inl ⟨by rfl, ?_⟩) ?_; rotate_left 1; · (intro w; go_simp; (try with_reducible rfl)))
                                (refine wpAny_take (i := 4) (v := ?_) (by simp only [List.getElem?_toArray, List.getElem?_cons_succ, List.getElem?_cons_zero]; rfl) (by kernel_rfl) (by kernel_rfl) (by kernel_rfl) (by exact fun _ _ _ h => h) (Or.inl ⟨by rfl, ?_⟩) ?_; rotate_left 1; · (intro w; go_simp; (try with_reducible rfl)))
                                (refine wpAny_take (i := 5) (v := ?_) (by simp only [List.getElem?_toArray, List.getElem?_cons_succ, List.getElem?_cons_zero]; rfl) (by kernel_rfl) (by kernel_rfl) (by kernel_rfl) (by exact fun _ _ _ h => h) (Or.inl ⟨by rfl, ?_⟩) ?_; rotate_left 1; · (intro w; go_simp; (try with_reducible rfl)))
                                (refine wpAny_take (i := 6) (v := ?_) (by simp only [List.getElem?_toArray, List.getElem?_cons_succ, List.getElem?_cons_zero]; rfl) (by kernel_rfl) (by kernel_rfl) (by kernel_rfl) (by exact fun _ _ _ h => h) (Or.inl ⟨by rfl, ?_⟩) ?_; rotate_left 1; · (intro w; go_simp; (try with_reducible rfl)))
                                (refine wpAny_take (i := 7) (v := ?_) (by simp only [List.getElem?_toArray, List.getElem?_cons_succ, List.getElem?_cons_zero]; rfl) (by kernel_rfl) (by kernel_rfl) (by kernel_rfl) (by exact fun _ _ _ h => h) (Or.inl ⟨by rfl, ?_⟩) ?_; rotate_left 1; · (intro w; go_simp; (try with_reducible rfl)))
                                (refine wpAny_take (i := 8) (v := ?_) (by simp only [List.getElem?_toArray, List.getElem?_cons_succ, List.getElem?_cons_zero]; rfl) (by kernel_rfl) (by kernel_rfl) (by kernel_rfl) (by exact fun _ _ _ h => h) (Or.inl ⟨by rfl, ?_⟩) ?_; rotate_left 1; · (intro w; go_simp; (try with_reducible rfl)))
                                (refine wpAny_take (i := 9) (v := ?_) (by simp only [List.getElem?_toArray, List.getElem?_cons_succ, List.getElem?_cons_zero]; rfl) (by kernel_rfl) (by kernel_rfl) (by kernel_rfl) (by exact fun _ _ _ h => h) (Or.inl ⟨by rfl, ?_⟩) ?_; rotate_left 1; · (intro w; go_simp; (try with_reducible rfl)))
                                (refine wpAny_take (i := 11) (v := ?_) (by simp only [List.getElem?_toArray, List.getElem?_cons_succ, List.getElem?_cons_zero]; rfl) (by kernel_rfl) (by kernel_rfl) (by kernel_rfl) (by exact fun _ _ _ h => h) (Or.inl ⟨by rfl, ?_⟩) ?_; rotate_left 1; · (intro w; go_simp; (try with_reducible rfl)))
                                refine wpAny_ready (rs := [10]) (by kernel_rfl) (by simp) ?_
                                refine AllReady.cons (by simp only [List.getElem?_toArray, List.getElem?_cons_succ, List.getElem?_cons_zero]; rfl) (fun K hK => ?_) ?_
                                · (go_simp; go_at_call 37; refine (HTN.out _).mono ?_; rintro e w' ⟨rfl, rfl⟩)
                                  (first | (refine hK _ _ ?_; clear hK K) | skip)
                                  refine wpAny_ready (rs := [12]) (by kernel_rfl) (by simp) ?_
                                  refine AllReady.cons (by simp only [List.getElem?_toArray, List.getElem?_cons_succ, List.getElem?_cons_zero]; rfl) (fun K hK => ?_) ?_
                                  · go_simp
                                    (first | (refine hK _ _ ?_; clear hK K) | skip)
                                    (refine wpAny_take (i := 13) (v := ?_) (by simp only [List.getElem?_toArray, List.getElem?_cons_succ, List.getElem?_cons_zero]; rfl) (by kernel_rfl) (by kernel_rfl) (by kernel_rfl) (by exact fun _ _ _ h => h) (Or.inl ⟨by rfl, ?_⟩) ?_; rotate_left 1; · (intro w; go_simp; (try with_reducible rfl)))
                                    refine wpAny_ready (rs := [14]) (by kernel_rfl) (by simp) ?_
                                    refine AllReady.cons (by simp only [List.getElem?_toArray, List.getElem?_cons_succ, List.getElem?_cons_zero]; rfl) (fun K hK => ?_) ?_
                                    · go_simp
                                      (first | (refine hK _ _ ?_; clear hK K) | skip)
                                      refine wpAny_done (by kernel_rfl) ?_ _
                                      have hz6 : RZ w g #[.int .i64 F, .string t0, .string t1, .string ⟨#[]⟩, .string ⟨#[]⟩, .string n1, .string t5, .string k6, .string k8, .string k9, .string n2, .string t13] (World.drew ((wd.setCell ⟨g, 5, none⟩ (.string n1)).setCell ⟨g, 10, none⟩ (.string n2))) := ((HRZ5.out.set 5 (.string n1)).set 10 (.string n2)).drew
                                      clear y5 f5 y10 f10 g1 g2 g3 g4 g5 g6 g7 g8 g9
                                      generalize World.drew ((wd.setCell ⟨g, 5, none⟩ (.string n1)).setCell ⟨g, 10, none⟩ (.string n2)) = w6 at hz6 ⊢
                                      have HRZ6 := Lib.hid hz6
                                      clear hz6 HRZ5
                                      have y5 := HRZ6.out.2.1.cell 5
                                      have g1 : IntKind.i64.wrap ((k : Int) - 1) = (k : Int) - 1 := IntWalk.i64_in _ (by omega)
                                      have g2 : (0 : Int) ≤ (k : Int) - 1 := by omega
                                      have g3 : ((k : Int) - 1).toNat = k - 1 := by omega
                                      have g4 : (k : Int) - 1 < (k11.size : Int) := by omega
                                      have g5 : k - 1 < k11.size := by omega
                                      go_upto_region 37 with fail
                                      refine wp_region_any (by kernel_rfl) ?_
                                      (try (change wpAny _ _ _ _ _ _ _ (World.drew _)))
                                      (refine wpAny_take (i := 0) (v := ?_) (by simp only [List.getElem?_toArray, List.getElem?_cons_zero]; rfl) (by kernel_rfl) (by kernel_rfl) (by kernel_rfl) (by exact fun _ _ _ h => h) (Or.inl ⟨by rfl, ?_⟩) ?_; rotate_left 1; · (intro w; go_simp; (try with_reducible rfl)))
                                      (refine wpAny_take (i := 2) (v := ?_) (by simp only [List.getElem?_toArray, List.getElem?_cons_succ, List.getElem?_cons_zero]; rfl) (by kernel_rfl) (by kernel_rfl) (by kernel_rfl) (by exact fun _ _ _ h => h) (Or.inl ⟨by rfl, ?_⟩) ?_; rotate_left 1; · (intro w; go_simp; (try with_reducible rfl)))
                                      (refine wpAny_take (i := 3) (v := ?_) (by simp only [List.getElem?_toArray, List.getElem?_cons_succ, List.getElem?_cons_zero]; rfl) (by kernel_rfl) (by kernel_rfl) (by kernel_rfl) (by exact fun _ _ _ h => h) (Or.inl ⟨by rfl, ?_⟩) ?_; rotate_left 1; · (intro w; go_simp; (try with_reducible rfl)))
                                      (refine wpAny_take (i := 4) (v := ?_) (by simp only [List.getElem?_toArray, List.getElem?_cons_succ, List.getElem?_cons_zero]; rfl) (by kernel_rfl) (by kernel_rfl) (by kernel_rfl) (by exact fun _ _ _ h => h) (Or.inl ⟨by rfl, ?_⟩) ?_; rotate_left 1; · (intro w; go_simp; (try with_reducible rfl)))
                                      (refine wpAny_take (i := 5) (v := ?_) (by simp only [List.getElem?_toArray, List.getElem?_cons_succ, List.getElem?_cons_zero]; rfl) (by kernel_rfl) (by kernel_rfl) (by kernel_rfl) (by exact fun _ _ _ h => h) (Or.inl ⟨by rfl, ?_⟩) ?_; rotate_left 1; · (intro w; go_simp; (try with_reducible rfl)))
                                      refine wpAny_ready (rs := [1]) (by kernel_rfl) (by simp) ?_
                                      refine AllReady.cons (by simp only [List.getElem?_toArray, List.getElem?_cons_succ, List.getElem?_cons_zero]; rfl) (fun K hK => ?_) ?_
                                      · go_simp
                                        (first | (refine hK _ _ ?_; clear hK K) | skip)
                                        refine wpAny_ready (rs := [6]) (by kernel_rfl) (by simp) ?_
                                        refine AllReady.cons (by simp only [List.getElem?_toArray, List.getElem?_cons_succ, List.getElem?_cons_zero]; rfl) (fun K hK => ?_) ?_
                                        · (go_simp; go_at_call 38; refine (HRN.out _).mono ?_; rintro e wy ⟨rfl, hb⟩)
                                          (first | (refine hK _ _ ?_; clear hK K) | skip)
                                          (refine wpAny_take (i := 7) (v := ?_) (by simp only [List.getElem?_toArray, List.getElem?_cons_succ, List.getElem?_cons_zero]; rfl) (by kernel_rfl) (by kernel_rfl) (by kernel_rfl) (by exact fun _ _ _ h => h) (Or.inl ⟨by rfl, ?_⟩) ?_; rotate_left 1; · (intro w; go_simp; (try with_reducible rfl)))
                                          refine wpAny_done (by kernel_rfl) ?_ _
                                          have hz7 := (HRZ6.out.drew).later hb
                                          have HRZ7a := Lib.hid hz7
                                          clear hb hz7
                                          cases rN
                                          · have hnn : Zn.nums F (txts R) = ([], [], 13) := by
                                              unfold Zn.nums
                                              rw [if_neg (fun h => h (of_decide_eq_true HD4.out)), HCUT.out, if_neg HCON.out, if_pos (of_decide_eq_false HRNE.out)]
                                            have hPE := HPE3.out
                                            rw [hnn] at hPE
                                            have HE := Lib.hid (show Zn.prsE (txts R) = 13 from by rw [hPE, if_pos (by show (13 : Int) ≠ 0; omega)])
                                            clear hPE hnn
                                            obtain ⟨x0, x1, x2, x3, x4, x5, x6, x7, x8, x9, x10, x11⟩ := HRZ7a.out.1.cells
                                            have xf := fun i => ZBox.free HRZ7a.out.1 i
                                            go_wp2_with fail
                                            exact rparse_ret (z := Zn.Z.zero) rfl rfl HRZ7a.out.1 HRZ7a.out.2.2.1 (Zn.prs_fail HE.out (by omega)) HE.out
                                          have hnn : Zn.nums F (txts R) = (Zn.fld F (txts R) 3 ++ (l11.take k).dropLast, Zn.tr (l11.drop (k + 1)), 0) := by
                                            unfold Zn.nums
                                            rw [if_neg (fun h => h (of_decide_eq_true HD4.out)), HCUT.out, if_neg HCON.out, if_neg (fun h => h (of_decide_eq_true HRNE.out))]
                                          have hPE := HPE3.out
                                          rw [hnn] at hPE
                                          simp only at hPE
                                          rw [if_neg (by omega)] at hPE
                                          have HPE4 := Lib.hid hPE; have HNN := Lib.hid hnn
                                          have HRZ5 := HRZ7a
                                          clear hPE hnn HPE3 HRZ7a HRZ6
                                          have z2 : k2.size ≤ 44 := by rw [HK2.out, str_size]; exact HFL.out 2 (by omega)
                                          obtain ⟨⟨SU, GI, FU, SE⟩, hsp⟩ : ∃ q, Opt.splV k2 = q := ⟨_, rfl⟩
                                          have hcs := fun W => rsplit k2 W (by omega)
                                          have hss := splV_size2 k2
                                          rw [hsp] at hss
                                          simp only [hsp] at hcs
                                          unfold Opt.splR at hcs
                                          simp only at hcs hss
                                          have hPE := HPE4.out
                                          rw [← HK2.out, hsp] at hPE
                                          simp only at hPE
                                          have HPE5 := Lib.hid hPE
                                          have HSP := Lib.hid hcs; have HSV := Lib.hid hsp; have HSS := Lib.hid (And.intro (Nat.le_trans hss.1 z2) (Nat.le_trans hss.2 z2))
                                          clear hcs hss hPE hsp z2 HPE4
                                          go_wp2_with fail
                                          refine (HSP.out _).mono ?_; rintro e ws ⟨rfl, hb⟩
                                          have HRZ6 := Lib.hid (HRZ5.out.later hb)
                                          clear hb HRZ5
                                          by_cases hS : SE ≠ 0
                                          · have HE := Lib.hid (show Zn.prsE (txts R) = SE from by rw [HPE5.out, if_pos hS])
                                            obtain ⟨x0, x1, x2, x3, x4, x5, x6, x7, x8, x9, x10, x11⟩ := HRZ6.out.1.cells
                                            have xf := fun i => ZBox.free HRZ6.out.1 i
                                            have e1 : (SE != 0) = true := by rw [bne_iff_ne]; exact hS
                                            have HN := Lib.hid hS
                                            clear hS
                                            go_wp2_with fail
                                            exact rparse_ret (z := Zn.Z.zero) rfl rfl HRZ6.out.1 HRZ6.out.2.2.1 (Zn.prs_fail HE.out HN.out) HE.out
                                          have hPE := HPE5.out
                                          rw [if_neg hS] at hPE
                                          obtain rfl : SE = 0 := by omega
                                          have HPE6 := Lib.hid hPE
                                          clear hPE HPE5 hS
                                          have y3 := HRZ6.out.2.1.cell 3; have f3 := HRZ6.out.2.1.free 3; have y4 := HRZ6.out.2.1.cell 4; have f4 := HRZ6.out.2.1.free 4
                                          go_upto_region 43 with fail
                                          have hz3 : RZ w g #[.int .i64 F, .string t0, .string t1, .string SU, .string GI, .string n1, .string t5, .string k6, .string k8, .string k9, .string n2, .string t13] ((ws.setCell ⟨g, 3, none⟩ (.string SU)).setCell ⟨g, 4, none⟩ (.string GI)) := (HRZ6.out.set 3 (.string SU)).set 4 (.string GI)
                                          clear y3 f3 y4 f4
                                          generalize (ws.setCell ⟨g, 3, none⟩ (.string SU)).setCell ⟨g, 4, none⟩ (.string GI) = wt at hz3 ⊢
                                          obtain ⟨Z, hZ⟩ : ∃ Z : Zn.Z, Z = ⟨F, t0, t1, SU, GI, n1, t5, k6, k8, k9, n2, t13⟩ := ⟨_, rfl⟩
                                          have hZP : Zn.prsZ F (txts R) = Z := by
                                            unfold Zn.prsZ
                                            rw [HNN.out, ← HK2.out, HSV.out, ← HTT0.out, ← HTT1.out, ← HTT5.out, ← HK6.out, ← HK8.out, ← HK9.out, ← HTT13.out, hZ, H1.out, H2.out]
                                          have hfit : Z.fits maxLen := by
                                            have hnn := nums_len F HF1.out _ HSH.out
                                            rw [HNN.out] at hnn
                                            have ht : ∀ l : List UInt8, (Zn.tr l).length ≤ l.length := fun l => Opt.trim_le l
                                            have z0 : t0.size ≤ 44 := by rw [HTT0.out, str_size]; exact Nat.le_trans (ht _) (HFL.out 0 (by omega))
                                            have z1 : t1.size ≤ 44 := by rw [HTT1.out, str_size]; exact Nat.le_trans (ht _) (HFL.out 1 (by omega))
                                            have z5 : t5.size ≤ 44 := by rw [HTT5.out, str_size]; exact Nat.le_trans (ht _) (HFL.out 5 (by omega))
                                            have z13 : t13.size ≤ 44 := by rw [HTT13.out, str_size]; exact Nat.le_trans (ht _) (HFL.out 13 (by omega))
                                            have z6 : k6.size ≤ 44 := by rw [HK6.out, str_size]; exact HFL.out 6 (by omega)
                                            have z8 : k8.size ≤ 44 := by rw [HK8.out, str_size]; exact HFL.out 8 (by omega)
                                            have z9 : k9.size ≤ 44 := by rw [HK9.out, str_size]; exact HFL.out 9 (by omega)
                                            have zn1 : n1.size ≤ 88 := by rw [H1.out, str_size]; exact hnn.1
                                            have zn2 : n2.size ≤ 88 := by rw [H2.out, str_size]; exact hnn.2
                                            have zs := HSS.out
                                            have e : (88 : Nat) ≤ maxLen := by unfold maxLen; omega
                                            rw [hZ]
                                            refine ⟨?_, ?_, ?_, ?_, ?_, ?_, ?_, ?_, ?_, ?_, ?_⟩ <;> first | (show t0.size ≤ _; omega) | (show t1.size ≤ _; omega) | (show SU.size ≤ _; omega) | (show GI.size ≤ _; omega) | (show n1.size ≤ _; omega) | (show t5.size ≤ _; omega) | (show k6.size ≤ _; omega) | (show k8.size ≤ _; omega) | (show k9.size ≤ _; omega) | (show n2.size ≤ _; omega) | (show t13.size ≤ _; omega)
                                          have hbz : ZBox wt g Z := by rw [hZ]; exact hz3.2.1
                                          have HBZ := Lib.hid hbz; have HRZ7 := Lib.hid hz3
                                          have HVV := Lib.hid (show ∀ W, Calls Tryz.prog 24 #[.agg #[.int .i64 Z.fmt, .string Z.kind, .string Z.state, .string Z.sur, .string Z.giv, .string Z.num, .string Z.nat, .string Z.birth, .string Z.sex, .string Z.exp, .string Z.opt, .string Z.sec]] W fun e w' => e = .returned (.int .i64 (Zn.vldE Z)) ∧ Below W.heap.size W w' from fun W => rvalidZ Z W hfit)
                                          have hPE := HPE6.out
                                          rw [hZP] at hPE
                                          obtain ⟨vE, hvE⟩ : ∃ q, Zn.vldE Z = q := ⟨_, rfl⟩
                                          rw [hvE] at hPE HVV
                                          have HPE8 := Lib.hid hPE; have HZP := Lib.hid hZP
                                          clear hz3 hbz hPE hvE HPE6 hZP hfit hZ
                                          obtain ⟨y0, y1, y2, y3, y4, y5, y6, y7, y8, y9, y10, y11⟩ := HBZ.out.cells
                                          go_wp2_with fail
                                          refine (HVV.out _).mono ?_; rintro e wu ⟨rfl, hb⟩
                                          have HRZ8 := Lib.hid (HRZ7.out.later hb)
                                          have HBZ2 := Lib.hid (HBZ.out.later hb)
                                          clear hb y0 y1 y2 y3 y4 y5 y6 y7 y8 y9 y10 y11
                                          obtain ⟨x0, x1, x2, x3, x4, x5, x6, x7, x8, x9, x10, x11⟩ := HRZ8.out.1.cells
                                          have xf := fun i => ZBox.free HRZ8.out.1 i
                                          by_cases hE : vE ≠ 0
                                          · have HE := Lib.hid (show Zn.prsE (txts R) = vE from HPE8.out)
                                            have e1 : (vE != 0) = true := by rw [bne_iff_ne]; exact hE
                                            have HN := Lib.hid hE
                                            clear hE
                                            go_wp2_with fail
                                            exact rparse_ret (z := Zn.Z.zero) rfl rfl HRZ8.out.1 HRZ8.out.2.2.1 (Zn.prs_fail HE.out HN.out) HE.out
                                          obtain rfl : vE = 0 := by omega
                                          have HE := Lib.hid (show Zn.prsE (txts R) = 0 from HPE8.out)
                                          have HVZ := Lib.hid ((HPV.out HE.out).trans HZP.out)
                                          clear hE
                                          obtain ⟨y0, y1, y2, y3, y4, y5, y6, y7, y8, y9, y10, y11⟩ := HBZ2.out.cells
                                          go_wp2_with fail
                                          exact rparse_ret (z := Z) rfl rfl HRZ8.out.1 HRZ8.out.2.2.1 HVZ.out HE.out
                                        exact AllReady.nil
                                      exact AllReady.nil
                                    exact AllReady.nil
                                  exact AllReady.nil
                                exact AllReady.nil
                              · have ex : ((((k11[k]'hlt).toNat : Int)) != 60) = true := by
                                  rw [bne_iff_ne]; intro h; exact hx (by apply UInt8.toNat_inj.1; show _ = 60; omega)
                                have HX60 := Lib.hid (show l11.getD k 0 ≠ 60 by rw [hgk]; exact hx)
                                clear hx hgk
                                go_wp2_with fail
                                go_round
                                case rel =>
                                  refine ⟨k + 1, by omega, by go_num, fun j hj => ?_⟩
                                  rcases Nat.lt_or_ge j k with g | g
                                  · exact HNO.out j g
                                  · obtain rfl : j = k := by omega
                                    exact HX60.out
                                case measure => simp [intOf]; omega
                            · obtain rfl : k = k11.size := by omega
                              have HCUT := Lib.hid (show Lib.cut (Zn.fld F (txts R) 11) [60] = (l11, [], false) from by rw [HL11.out]; exact Zn.cut_miss fun j hj => HNO.out j (by have := HZ11.out; omega))
                              clear hlt hk
                              by_cases hf3 : F = 3
                              · have ef : ((F : Int) == 3) = true := by rw [hf3]; rfl
                                clear hf3
                                have hPE := HPE3.out
                                rw [show Zn.nums F (txts R) = ([], [], 1) from by
                                  unfold Zn.nums
                                  rw [if_neg (fun h => h (of_decide_eq_true HD4.out)), HCUT.out, if_pos (.inr (.inl rfl))]] at hPE
                                have HE := Lib.hid (show Zn.prsE (txts R) = 1 from by rw [hPE, if_pos (by show (1 : Int) ≠ 0; omega)])
                                clear hPE
                                obtain ⟨x0, x1, x2, x3, x4, x5, x6, x7, x8, x9, x10, x11⟩ := HRZ5.out.1.cells
                                have xf := fun i => ZBox.free HRZ5.out.1 i
                                go_wp2_with fail
                                exact rparse_ret (z := Zn.Z.zero) rfl rfl HRZ5.out.1 HRZ5.out.2.2.1 (Zn.prs_fail HE.out (by omega)) HE.out
                              have ef : ((F : Int) == 3) = false := by rw [beq_eq_false_iff_ne]; omega
                              clear hf3
                              by_cases hk2 : k11.size < 2
                              · have hPE := HPE3.out
                                rw [show Zn.nums F (txts R) = ([], [], 1) from by
                                  unfold Zn.nums
                                  rw [if_neg (fun h => h (of_decide_eq_true HD4.out)), HCUT.out, if_pos (.inr (.inl rfl))]] at hPE
                                have HE := Lib.hid (show Zn.prsE (txts R) = 1 from by rw [hPE, if_pos (by show (1 : Int) ≠ 0; omega)])
                                clear hPE
                                obtain ⟨x0, x1, x2, x3, x4, x5, x6, x7, x8, x9, x10, x11⟩ := HRZ5.out.1.cells
                                have xf := fun i => ZBox.free HRZ5.out.1 i
                                go_wp2_with fail
                                exact rparse_ret (z := Zn.Z.zero) rfl rfl HRZ5.out.1 HRZ5.out.2.2.1 (Zn.prs_fail HE.out (by omega)) HE.out
                              · have hPE := HPE3.out
                                rw [show Zn.nums F (txts R) = ([], [], 1) from by
                                  unfold Zn.nums
                                  rw [if_neg (fun h => h (of_decide_eq_true HD4.out)), HCUT.out, if_pos (.inr (.inl rfl))]] at hPE
                                have HE := Lib.hid (show Zn.prsE (txts R) = 1 from by rw [hPE, if_pos (by show (1 : Int) ≠ 0; omega)])
                                clear hPE
                                obtain ⟨x0, x1, x2, x3, x4, x5, x6, x7, x8, x9, x10, x11⟩ := HRZ5.out.1.cells
                                have xf := fun i => ZBox.free HRZ5.out.1 i
                                go_wp2_with fail
                                exact rparse_ret (z := Zn.Z.zero) rfl rfl HRZ5.out.1 HRZ5.out.2.2.1 (Zn.prs_fail HE.out (by omega)) HE.out
                  exact AllReady.nil
                exact AllReady.nil
              exact AllReady.nil
            exact AllReady.nil
          exact AllReady.nil
        exact AllReady.nil
      exact AllReady.nil
end Go.Proofs.YtelngghecmkipaaGreatDoor
