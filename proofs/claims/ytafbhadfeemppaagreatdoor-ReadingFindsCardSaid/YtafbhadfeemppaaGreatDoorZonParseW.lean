/- Chapter 11: the walk of Parse of the program. -/
import Derived.Test.YtafbhadfeemppaaGreatDoorZonLines
namespace Go.Proofs.YtafbhadfeemppaaGreatDoor
open Go.RowKit

theorem ZBox.free {w : World} {g : Nat} {z : Zn.Z} (h : ZBox w g z) (i : Nat) : w.frozen? ⟨g, i, none⟩ = false := frozen_of_row w g i _ _ h
theorem results_parse (tmps : Array Value) (w : World) (g : Nat) (z : Zn.Z) (ha : tmps.getD 2 undef = .pointer (some ⟨g, 0, none⟩)) (h : ZBox w g z) :
    (results Tryz.f26 tmps).run Tryz.prog w = .ok (.tuple #[z.val, tmps.getD 3 undef]) w := by
  have hp' : tmps[2]?.getD undef = .pointer (some ⟨g, 0, none⟩) := by simpa using ha
  simp [results, hp', asAddr, run_loadVar_row (P := Tryz.prog) w g _ _ _ _ _ h Tryz.underlying42 rfl Tryz.infoZone, Zn.Z.val]

/-- A zone stored into a block, cell by cell. -/
def zset (w : World) (g : Nat) (z : Zn.Z) : World :=
  ((((((((((((w.setCell ⟨g, 0, none⟩ (.int .i64 z.fmt)).setCell ⟨g, 1, none⟩ (.string z.kind)).setCell ⟨g, 2, none⟩ (.string z.state)).setCell ⟨g, 3, none⟩ (.string z.sur)).setCell ⟨g, 4, none⟩ (.string z.giv)).setCell ⟨g, 5, none⟩ (.string z.num)).setCell ⟨g, 6, none⟩ (.string z.nat)).setCell ⟨g, 7, none⟩ (.string z.birth)).setCell ⟨g, 8, none⟩ (.string z.sex)).setCell ⟨g, 9, none⟩ (.string z.exp)).setCell ⟨g, 10, none⟩ (.string z.opt)).setCell ⟨g, 11, none⟩ (.string z.sec))
theorem zset_box {w : World} {g : Nat} {z0 : Zn.Z} (h : ZBox w g z0) (z : Zn.Z) : ZBox (zset w g z) g z := by
  unfold ZBox at *
  unfold zset
  simp [World.setCell, Array.getElem?_modify, h]
theorem zset_below {B : Nat} {w0 w : World} (h : Below B w0 w) {g : Nat} (hg : B ≤ g) (z : Zn.Z) : Below B w0 (zset w g z) :=
  (((((((((((h.setCell (p := ⟨g, 0, none⟩) hg _).setCell (p := ⟨g, 1, none⟩) hg _).setCell (p := ⟨g, 2, none⟩) hg _).setCell (p := ⟨g, 3, none⟩) hg _).setCell (p := ⟨g, 4, none⟩) hg _).setCell (p := ⟨g, 5, none⟩) hg _).setCell (p := ⟨g, 6, none⟩) hg _).setCell (p := ⟨g, 7, none⟩) hg _).setCell (p := ⟨g, 8, none⟩) hg _).setCell (p := ⟨g, 9, none⟩) hg _).setCell (p := ⟨g, 10, none⟩) hg _).setCell (p := ⟨g, 11, none⟩) hg _
theorem zparse_ret {tmps : Array Value} {W w : World} {z z0 V : Zn.Z} {e E : Int} (h2 : tmps.getD 2 undef = .pointer (some ⟨w.heap.size, 0, none⟩)) (h3 : tmps.getD 3 undef = .int .i64 e)
    (hx : ZBox W w.heap.size z0) (hb : Below w.heap.size w W) (hz : V = z) (he : E = e) :
    bodyPost Tryz.prog Tryz.f26 (fun e' w' => e' = .returned (.tuple #[V.val, .int .i64 E]) ∧ Below w.heap.size w w') Exit.ret { tmps := tmps, defers := [] } (zset W w.heap.size z) := by
  refine bodyPost_ret (results_parse _ _ w.heap.size z h2 (zset_box hx z)) rfl ?_
  rw [h3, hz, he]
  exact ⟨rfl, zset_below hb (Nat.le_refl _) z⟩

theorem Zn.prs_fail {L : List (List UInt8)} {E : Int} (h : Zn.prsE L = E) (hE : E ≠ 0) : Zn.prsV L = Zn.Z.zero := by unfold Zn.prsV; rw [if_neg (by rw [h]; exact hE)]
theorem own_some {w : World} {base e size n : Nat} {v : Value} {xs : List Value} (h : w.ownsRow base e size v (n + 1) xs) : ∃ b c, v = .slice (some ⟨b, 0, none⟩) (n + 1) c := by
  rcases h.2 with ⟨_, h0⟩ | ⟨b, c, _, h0, _⟩
  · omega
  · exact ⟨b, c, h0⟩
theorem conv_line (w : World) (s : ByteArray) : ∃ W cap, Sem.run Tryz.prog (convert 9 59 (.string s)) w = .ok (.slice (some ⟨w.heap.size, 0, none⟩) s.size cap) W ∧ Below w.heap.size w W ∧ W.heap.size = w.heap.size + 1 ∧ BytesAt W w.heap.size s.data.toList ∧ s.size ≤ cap :=
  ⟨_, _, run_bytes_of_string (P := Tryz.prog) w 9 59 5 s Tryz.underlying9 Tryz.underlying59 Tryz.underlying5,
    ((Below.refl _ _).drew).alloc (Nat.le_refl _) _, by simp, BytesAt.of_string w 5 s _ (bytesRow_size _ _), grownCap_ge _ _ _ _⟩
/-- What the loop of Parse has done. -/
def PS (w : World) (g f : Nat) (R : List ByteArray) (k : Nat) (wr : World) : Prop := ∃ v rows, ZBox wr w.heap.size Zn.Z.zero ∧ SheetIs wr g (Zn.lay f) v ∧ LinesAt wr (g + 1) v rows ∧ Ln.txt rows = (txts R).take k ∧ Below w.heap.size w wr ∧ g + 1 ≤ wr.heap.size ∧ w.heap.size < g

def QS (w : World) (g F : Nat) (rows : List Ln) (W : World) : Prop := ZBox W w.heap.size Zn.Z.zero ∧ SheetAt W (g + 1) g F rows ∧ Below w.heap.size w W
theorem QS.later {w W W' : World} {g F : Nat} {rows : List Ln} (h : QS w g F rows W) (hb : Below W.heap.size W W') : QS w g F rows W' := ⟨h.1.later hb, h.2.1.later hb, h.2.2.trans (hb.mono h.2.2.size)⟩
theorem splV_size2 (s : ByteArray) : (Opt.splV s).1.size ≤ s.size ∧ (Opt.splV s).2.1.size ≤ s.size := by
  have hc : ∀ t : List UInt8, (Lib.cut t [60, 60]).1.length ≤ t.length ∧ (Lib.cut t [60, 60]).2.1.length ≤ t.length := fun t => by
    unfold Lib.cut
    split
    · exact ⟨by rw [List.length_take]; exact Nat.min_le_right _ _, by rw [List.length_drop]; exact Nat.sub_le _ _⟩
    · exact ⟨Nat.le_refl _, Nat.zero_le _⟩
  have ht := Opt.trim_le s.data.toList
  rw [Opt.size_len] at ht
  unfold Opt.splV
  split
  · exact ⟨Nat.zero_le _, Nat.zero_le _⟩
  · split
    · exact ⟨Nat.zero_le _, Nat.zero_le _⟩
    · split
      · exact ⟨Nat.zero_le _, Nat.zero_le _⟩
      · rename_i x y hxy
        unfold Opt.spl at hxy
        split at hxy
        · cases hxy
        · injection hxy with hxy
          injection hxy with h1 h2
          have h := hc (Lib.trimRightB s.data.toList 60)
          refine ⟨?_, ?_⟩
          · rw [str_size, ← h1]; unfold Opt.sub; rw [List.length_map]; exact Nat.le_trans h.1 ht
          · rw [str_size, ← h2]; unfold Opt.sub; rw [List.length_map]; exact Nat.le_trans h.2 ht

theorem nums_len (F : Nat) (hF : 1 ≤ F ∧ F ≤ 3) (L : List (List UInt8)) (hL : Zn.Shaped F L) : (Zn.nums F L).1.length ≤ 88 ∧ (Zn.nums F L).2.1.length ≤ 88 := by
  have h3 : (Zn.fld F L 3).length ≤ 44 := by rw [Zn.fld_len F hF _ hL 3 (by omega)]; exact place_le F hF 3 (by omega)
  have h11 : (Zn.fld F L 11).length ≤ 44 := by rw [Zn.fld_len F hF _ hL 11 (by omega)]; exact place_le F hF 11 (by omega)
  have ht : ∀ l : List UInt8, (Zn.tr l).length ≤ l.length := fun l => Opt.trim_le l
  have hc := cut_len (Zn.fld F L 11)
  unfold Zn.nums
  repeat' split
  · exact ⟨Nat.le_trans (ht _) (by omega), Nat.le_trans (ht _) (by omega)⟩
  · exact ⟨Nat.zero_le _, Nat.zero_le _⟩
  · exact ⟨Nat.zero_le _, Nat.zero_le _⟩
  · refine ⟨?_, Nat.le_trans (ht _) (by omega)⟩
    rw [List.length_append, List.length_dropLast]; omega

set_option maxRecDepth 100000 in
set_option maxHeartbeats 8000000 in
theorem zparse (R : List ByteArray) (A : Option Addr) (c : Nat) (w : World) (hR : R.length ≤ 8796093022208) (hRs : ∀ s ∈ R, s.size ≤ 140737488351232) (hA : TextsAt w A R) (hd : Dat.At w) (hx : Opt.Lax w) :
    Calls Tryz.prog 26 #[.slice A R.length c] w fun e w' => e = .returned (.tuple #[(Zn.prsV (txts R)).val, .int .i64 (Zn.prsE (txts R))]) ∧ Below w.heap.size w w' := by
  have HA := Lib.hid hA
  have HDX := Lib.hid (And.intro hd hx)
  have HFO := Lib.hid (fun W hW => zformat R A c W hR hW)
  have hbx := ZBox.new w Zn.Z.zero
  have hb1 := below_alloc1 w (.cells #[.int .i64 0, .string ⟨#[]⟩, .string ⟨#[]⟩, .string ⟨#[]⟩, .string ⟨#[]⟩, .string ⟨#[]⟩, .string ⟨#[]⟩, .string ⟨#[]⟩, .string ⟨#[]⟩, .string ⟨#[]⟩, .string ⟨#[]⟩, .string ⟨#[]⟩] 42)
  clear hA hd hx
  go_enter Tryz.func26, Tryz.ntmps26
  go_upto_region 1 with fail
  change ZBox (w.alloc (.cells #[.int .i64 0, .string ⟨#[]⟩, .string ⟨#[]⟩, .string ⟨#[]⟩, .string ⟨#[]⟩, .string ⟨#[]⟩, .string ⟨#[]⟩, .string ⟨#[]⟩, .string ⟨#[]⟩, .string ⟨#[]⟩, .string ⟨#[]⟩, .string ⟨#[]⟩] 42)) w.heap.size Zn.Z.zero at hbx
  generalize w.alloc (.cells #[.int .i64 0, .string ⟨#[]⟩, .string ⟨#[]⟩, .string ⟨#[]⟩, .string ⟨#[]⟩, .string ⟨#[]⟩, .string ⟨#[]⟩, .string ⟨#[]⟩, .string ⟨#[]⟩, .string ⟨#[]⟩, .string ⟨#[]⟩, .string ⟨#[]⟩] 42) = w1 at hbx hb1 ⊢
  have HX := Lib.hid hbx; have HB := Lib.hid hb1
  clear hbx hb1
  go_wp2_with fail
  refine (HFO.out _ (HA.out.later HB.out)).mono ?_; rintro e w2 ⟨rfl, hb2⟩
  have HX2 := Lib.hid (HX.out.later hb2); have HB2 := Lib.hid (HB.out.trans (hb2.mono HB.out.size))
  clear hb2
  obtain ⟨F, hF⟩ : ∃ F, Zn.shape (txts R) = F := ⟨_, rfl⟩
  rw [hF]
  by_cases h0 : F = 0
  · subst h0
    have hE : Zn.prsE (txts R) = 2 := by unfold Zn.prsE; rw [if_pos hF]
    have hV : Zn.prsV (txts R) = Zn.Z.zero := by unfold Zn.prsV; rw [if_neg (by rw [hE]; omega)]
    have HE := Lib.hid hE; have HV := Lib.hid hV
    clear hE hV hF
    obtain ⟨x0, x1, x2, x3, x4, x5, x6, x7, x8, x9, x10, x11⟩ := HX2.out.cells
    have xf : ∀ i, w2.frozen? ⟨w.heap.size, i, none⟩ = false := fun i => HX2.out.free i
    go_wp2_with fail
    exact zparse_ret (z := Zn.Z.zero) rfl rfl HX2.out HB2.out HV.out HE.out
  have hsh := Zn.shape_of (L := txts R) (by rw [hF]; exact h0)
  have hF3 := Zn.shape_le (txts R)
  rw [hF] at hsh hF3
  have hF1 : 1 ≤ F ∧ F ≤ 3 := by omega
  have hPE : Zn.prsE (txts R) = (if (txts R).all Opt.valid = false then 12 else if Zn.chk F (txts R) = false then 13 else if (Zn.nums F (txts R)).2.2 ≠ 0 then (Zn.nums F (txts R)).2.2 else if (Opt.splV ⟨(Zn.fld F (txts R) 2).toArray⟩).2.2.2 ≠ 0 then (Opt.splV ⟨(Zn.fld F (txts R) 2).toArray⟩).2.2.2 else Zn.vldE (Zn.prsZ F (txts R))) := by
    unfold Zn.prsE; rw [if_neg (by rw [hF]; exact h0), hF]
  have hPV : Zn.prsE (txts R) = 0 → Zn.prsV (txts R) = Zn.prsZ F (txts R) := fun h => by unfold Zn.prsV; rw [if_pos h, hF]
  have hne : ((F : Int) == 0) = false := by rw [beq_eq_false_iff_ne]; omega
  have HPE := Lib.hid hPE; have HPV := Lib.hid hPV; have HSH := Lib.hid hsh; have HF1 := Lib.hid hF1
  have HLY := Lib.hid zlayout_f
  have hlenR : R.length = Zn.nLines F := by have := hsh.1; unfold txts at this; rwa [List.length_map] at this
  have hn3 : Zn.nLines F ≤ 3 := by unfold Zn.nLines; split <;> omega
  have hR3 : R.length ≤ 3 := by omega
  have HLR := Lib.hid hlenR
  clear hPE hPV hsh hF1 hF3 hF hlenR hn3
  -- the sheet
  have hss : SheetIs (w2.alloc (.cells #[.int .i64 0, .int .i64 0, .int .i64 0, .int .i64 0, .int .i64 0, .int .i64 0, .int .i64 0, .int .i64 0, .int .i64 0, .int .i64 0, .int .i64 0, .int .i64 0, .int .i64 0, .int .i64 0, .int .i64 0, .int .i64 0, .int .i64 0, .int .i64 0, .int .i64 0, .int .i64 0, .int .i64 0, .int .i64 0, .int .i64 0, .int .i64 0, .int .i64 0, .int .i64 0, .int .i64 0, .int .i64 0, .int .i64 0, .int .i64 0, .int .i64 0, .int .i64 0, .int .i64 0, .int .i64 0, .int .i64 0, .int .i64 0, .int .i64 0, .int .i64 0, .int .i64 0, .int .i64 0, .int .i64 0, .int .i64 0, .int .i64 0, .int .i64 0, .int .i64 0, .slice none 0 0] 84)) w2.heap.size Zn.lay0 (.slice none 0 0) := heap_alloc_new w2 _
  have hb3 := below_alloc1 w2 (.cells #[.int .i64 0, .int .i64 0, .int .i64 0, .int .i64 0, .int .i64 0, .int .i64 0, .int .i64 0, .int .i64 0, .int .i64 0, .int .i64 0, .int .i64 0, .int .i64 0, .int .i64 0, .int .i64 0, .int .i64 0, .int .i64 0, .int .i64 0, .int .i64 0, .int .i64 0, .int .i64 0, .int .i64 0, .int .i64 0, .int .i64 0, .int .i64 0, .int .i64 0, .int .i64 0, .int .i64 0, .int .i64 0, .int .i64 0, .int .i64 0, .int .i64 0, .int .i64 0, .int .i64 0, .int .i64 0, .int .i64 0, .int .i64 0, .int .i64 0, .int .i64 0, .int .i64 0, .int .i64 0, .int .i64 0, .int .i64 0, .int .i64 0, .int .i64 0, .int .i64 0, .slice none 0 0] 84)
  have hx3 := HX2.out.later hb3
  have hgx := HX2.out.lt
  go_upto_region 5 with fail
  generalize w2.alloc (.cells #[.int .i64 0, .int .i64 0, .int .i64 0, .int .i64 0, .int .i64 0, .int .i64 0, .int .i64 0, .int .i64 0, .int .i64 0, .int .i64 0, .int .i64 0, .int .i64 0, .int .i64 0, .int .i64 0, .int .i64 0, .int .i64 0, .int .i64 0, .int .i64 0, .int .i64 0, .int .i64 0, .int .i64 0, .int .i64 0, .int .i64 0, .int .i64 0, .int .i64 0, .int .i64 0, .int .i64 0, .int .i64 0, .int .i64 0, .int .i64 0, .int .i64 0, .int .i64 0, .int .i64 0, .int .i64 0, .int .i64 0, .int .i64 0, .int .i64 0, .int .i64 0, .int .i64 0, .int .i64 0, .int .i64 0, .int .i64 0, .int .i64 0, .int .i64 0, .int .i64 0, .slice none 0 0] 84) = w3 at hss hb3 hx3 ⊢
  obtain ⟨g, hg⟩ : ∃ g, g = w2.heap.size := ⟨_, rfl⟩
  rw [← hg] at hss hgx ⊢
  have HSS := Lib.hid hss; have HX3 := Lib.hid hx3; have HB3 := Lib.hid (HB2.out.trans (hb3.mono HB2.out.size)); have HGX := Lib.hid hgx
  clear hss hb3 hx3 hgx hg
  go_wp2_with fail
  refine (HLY.out F HF1.out _).mono ?_; rintro e w4 ⟨rfl, hb4⟩
  obtain ⟨w5, hst, hs5, hz5, ho5, hbl5⟩ := places_new w4 g (Zn.lay F) Zn.lay0 (.slice none 0 0) (Zn.lay_size F) rfl (Zn.lay_one F) (HSS.out.later hb4)
  have HB5 := Lib.hid (hbl5 w.heap.size w (HB3.out.trans (hb4.mono HB3.out.size)) (Nat.le_of_lt HGX.out))
  have HX5 := Lib.hid (show ZBox w5 w.heap.size Zn.Z.zero from (ho5 w.heap.size (by have := HGX.out; omega)).trans (HX3.out.later hb4))
  have hlt5 : g < w5.heap.size := hs5.lt
  have HPS := Lib.hid (show PS w g F R 0 w5 from ⟨_, [], HX5.out, hs5, ⟨World.ownsRow_nil _ _ _ _, List.nodup_nil, fun r hr => by cases hr⟩, rfl, HB5.out, hlt5, HGX.out⟩)
  have hsz := Zn.lay_size F
  clear hs5 hz5 ho5 hbl5 hb4 hlt5
  go_upto_region 6 with fail
  go_wp2_with fail
  clear hst
  go_loopw [34] (fun i wr => ∃ k : Nat, k ≤ R.length ∧ i = .int .i64 k ∧ (∀ m (h : m < k) (h1 : m < R.length), Opt.valid R[m].data.toList = true) ∧ PS w g F R k wr) (fun i _ => R.length - (intOf i).toNat)
  case atStart => exact ⟨0, Nat.zero_le _, rfl, fun m h => absurd h (by omega), HPS.out⟩
  case round =>
    obtain ⟨k, hk, rfl, hval, v, rows, px, ps, pl, pt, pb, pg, pw⟩ := hrel
    have HVAL := Lib.hid hval; have PX := Lib.hid px; have PSh := Lib.hid ps; have PL := Lib.hid pl; have PT := Lib.hid pt; have PB := Lib.hid pb; have PG := Lib.hid pg; have PW := Lib.hid pw
    clear hval px ps pl pt pb pg pw
    by_cases hlt : k < R.length
    · obtain ⟨b, off, rfl, e0⟩ := (HA.out.later PB.out).cell k hlt
      have hi : (k : Int) < (R.length : Int) := by omega
      obtain ⟨s, hs⟩ : ∃ s, R[k]'hlt = s := ⟨_, rfl⟩
      have hsz1 := hRs _ (List.getElem_mem hlt)
      have HLT := Lib.hid hlt
      have HSJ := Lib.hid hs
      rw [hs] at e0 hsz1
      have HVC := Lib.hid (ovalid s wr (by unfold maxLen; omega))
      obtain ⟨q, hq⟩ : ∃ q, Opt.valid s.data.toList = q := ⟨_, rfl⟩
      rw [hq] at HVC
      have HQ := Lib.hid hq
      clear hq hs
      go_wp2_with fail
      refine HVC.out.mono ?_; rintro e w6 ⟨rfl, rfl⟩
      cases q
      · have HE := Lib.hid (show Zn.prsE (txts R) = 12 from by
          rw [HPE.out, if_pos]
          rw [Bool.eq_false_iff]; intro ha
          have := List.all_eq_true.1 ha (R[k]'HLT.out).data.toList (List.mem_map.2 ⟨_, List.getElem_mem _, rfl⟩)
          rw [HSJ.out, HQ.out] at this; cases this)
        obtain ⟨x0, x1, x2, x3, x4, x5, x6, x7, x8, x9, x10, x11⟩ := PX.out.cells
        have xf := fun i => ZBox.free PX.out i
        go_wp2_with fail
        exact zparse_ret (z := Zn.Z.zero) rfl rfl PX.out PB.out (Zn.prs_fail HE.out (by omega)) HE.out
      · obtain ⟨W0, cap, hcv, hbw, hzw, hbyw, hcapw⟩ := conv_line wr s
        have c45 := PSh.out.last
        rw [Zn.lay_size F] at c45
        obtain ⟨i0, hi0, hz0, hz1, hz2⟩ := info_parts Tryz.infoB
        have hbt := below_alloc1 W0 (.cells #[.slice (some ⟨wr.heap.size, 0, none⟩) s.size cap] 59)
        have hownT := ownsRow_later PL.out.1 (hbw.trans (hbt.mono hbw.size))
        have HBW := Lib.hid hbw; have HZW := Lib.hid hzw; have HBYW := Lib.hid hbyw; have HCW := Lib.hid hcapw; have HBT := Lib.hid hbt; have HCV := Lib.hid hcv; have HOWN := Lib.hid hownT
        have HRL := Lib.hid (show rows.length ≤ 3 from by
          have h := congrArg List.length PT.out
          unfold Ln.txt txts at h
          rw [List.length_map, List.length_take, List.length_map] at h
          omega)
        clear hbw hzw hbyw hcapw hbt hownT
        go_wp2_with (at_builtin; refine wpList_append_own_at _ rfl _ _ 65 rfl (g + 1) 59 i0 (.slice none 0 0) 1 24 Tryz.underlying65 hi0 hz0 hz1 hz2 rfl (by decide) _ _ _ rfl HOWN.out ⟨W0.heap.size, 0, none⟩ 1 1 [.slice (some ⟨wr.heap.size, 0, none⟩) s.size cap] rfl rfl ?c1 ?c2 ?c3 ?c4 ?c5 ?_)
        case c1 => exact cell_one_new _ _ _
        case c2 => intro u hu; simp at hu; subst hu; rfl
        case c3 => have := HRL.out; unfold maxLen; omega
        case c4 => have := HRL.out; omega
        case c5 => have := PG.out; have := HZW.out; simp; omega
        · intro v' w4' hown' hgrow _ hloc
          have hst := lines_step (M := Zn.lay F) (l := s.data.toList) (k := wr.heap.size) (cp := cap) PSh.out PL.out (Nat.lt_succ_self g) PX.out PW.out PG.out (HBW.out.trans (HBT.out.mono HBW.out.size)) rfl
            (by have := HZW.out; simp; omega) (HBYW.out.later HBT.out (by have := HZW.out; omega)) (by rw [Opt.size_len]; exact HCW.out) (by rw [Opt.size_len]; exact hown') hgrow (by rw [size_alloc1]; exact hloc)
          rw [Zn.lay_size F] at hst
          obtain ⟨q1, q2, q3, q4, q5, q6⟩ := hst
          have hPS : PS w g F R (k + 1) (w4'.setCell ⟨g, 45, none⟩ v') := ⟨v', _, q3, q1, q2, by
            have h := PT.out
            unfold Ln.txt txts at *
            rw [List.map_append, h, List.take_succ_eq_append_getElem (by rw [List.length_map]; exact HLT.out), List.getElem_map]
            show _ ++ [s.data.toList] = _
            rw [HSJ.out], q6 _ _ PB.out (Nat.le_of_lt PW.out), by have := q1.lt; exact this, PW.out⟩
          have HPN := Lib.hid hPS
          obtain ⟨b', c', rfl⟩ := own_some hown'
          clear hPS q1 q2 q3 q6 hown' hgrow hloc
          go_wp2_with fail
          go_roundw
          case rel =>
            refine ⟨k + 1, HLT.out, by go_num, fun m h h1 => ?_, HPN.out⟩
            rcases Nat.lt_or_ge m k with g | g
            · exact HVAL.out m g h1
            · obtain rfl : m = k := by omega
              rw [HSJ.out]; exact HQ.out
          case measure => have := HLT.out; simp [intOf]; omega
    · obtain rfl : k = R.length := by omega
      have rt : Ln.txt rows = txts R := by
        rw [PT.out]; exact List.take_of_length_le (by unfold txts; rw [List.length_map]; omega)
      have hV : (txts R).all Opt.valid = true := List.all_eq_true.2 fun x hx => by
        obtain ⟨s, hs, rfl⟩ := List.mem_map.1 hx
        obtain ⟨m, hm, rfl⟩ := List.getElem_of_mem hs
        exact HVAL.out m hm hm
      have hQ : QS w g F rows wr := ⟨PX.out, ⟨v, PSh.out, PL.out, Nat.lt_succ_self g⟩, PB.out⟩
      have hL : Zn.Shaped F (Ln.txt rows) := by rw [rt]; exact HSH.out
      have hVr : (Ln.txt rows).all Opt.valid = true := by rw [rt]; exact hV
      have hch := fun W (hW : SheetAt W (g + 1) g F rows) => zchecked W (g + 1) g F rows HF1.out hW hL hVr
      have hnu := fun W (hW : SheetAt W (g + 1) g F rows) (hx : Opt.Lax W) => znums W (g + 1) g F rows HF1.out hW hL hVr hx
      have hge := fun W (hW : SheetAt W (g + 1) g F rows) (i : Nat) (hi : i < 15) => zget W (g + 1) g F rows HF1.out hW hL i hi
      have hva := fun W (hW : SheetAt W (g + 1) g F rows) (i : Nat) (hi : i < 15) => zvalue W (g + 1) g F rows HF1.out hW hL i hi
      rw [rt] at hch hnu hge hva
      have hfl : ∀ i, i < 15 → (Zn.fld F (txts R) i).length ≤ 44 := fun i hi => by rw [Zn.fld_len F HF1.out _ HSH.out i hi]; exact place_le F HF1.out i hi
      have hPE := HPE.out
      rw [if_neg (by rw [hV]; simp)] at hPE
      have HPE2 := Lib.hid hPE
      have HQ0 := Lib.hid hQ; have HNU := Lib.hid hnu; have HGE := Lib.hid hge; have HVA := Lib.hid hva; have HFL := Lib.hid hfl
      obtain ⟨bC, hbC⟩ : ∃ b, Zn.chk F (txts R) = b := ⟨_, rfl⟩
      rw [hbC] at hch hPE
      have HCH := Lib.hid hch
      have HPE3 := Lib.hid hPE
      clear rt hV hQ hL hVr hch hnu hge hva hfl hPE hbC HPE HPE2 PX PSh PL PT PB PG PW HVAL hlt hk
      go_wp2_with fail
      refine (HCH.out _ HQ0.out.2.1).mono ?_; rintro e w6 ⟨rfl, hb⟩
      have HQ1 := Lib.hid (HQ0.out.later hb)
      clear hb
      cases bC
      · have HE := Lib.hid (show Zn.prsE (txts R) = 13 from by rw [HPE3.out, if_pos rfl])
        obtain ⟨x0, x1, x2, x3, x4, x5, x6, x7, x8, x9, x10, x11⟩ := HQ1.out.1.cells
        have xf := fun i => ZBox.free HQ1.out.1 i
        go_wp2_with fail
        exact zparse_ret (z := Zn.Z.zero) rfl rfl HQ1.out.1 HQ1.out.2.2 (Zn.prs_fail HE.out (by omega)) HE.out
      have hPE := HPE3.out
      rw [if_neg (by simp)] at hPE
      obtain ⟨⟨N1, N2, NE⟩, hnn⟩ : ∃ q, Zn.nums F (txts R) = q := ⟨_, rfl⟩
      rw [hnn] at HNU hPE
      simp only at HNU hPE
      have HPE4 := Lib.hid hPE
      have HNN := Lib.hid hnn
      clear hPE hnn HPE3
      go_wp2_with fail
      refine (HNU.out _ HQ1.out.2.1 (HDX.out.2.below HQ1.out.2.2)).mono ?_; rintro e w7 ⟨rfl, hb⟩
      have HQ2 := Lib.hid (HQ1.out.later hb)
      clear hb
      by_cases hN : NE ≠ 0
      · have HE := Lib.hid (show Zn.prsE (txts R) = NE from by rw [HPE4.out, if_pos hN])
        obtain ⟨x0, x1, x2, x3, x4, x5, x6, x7, x8, x9, x10, x11⟩ := HQ2.out.1.cells
        have xf := fun i => ZBox.free HQ2.out.1 i
        have e1 : (NE != 0) = true := by rw [bne_iff_ne]; exact hN
        have HN := Lib.hid hN
        clear hN
        go_wp2_with fail
        exact zparse_ret (z := Zn.Z.zero) rfl rfl HQ2.out.1 HQ2.out.2.2 (Zn.prs_fail HE.out HN.out) HE.out
      have hPE := HPE4.out
      rw [if_neg hN] at hPE
      obtain rfl : NE = 0 := by omega
      have HPE5 := Lib.hid hPE
      clear hPE HPE4 hN
      go_wp2_with fail
      refine (HGE.out _ HQ2.out.2.1 2 (by omega)).mono ?_; rintro e w8 ⟨rfl, hb⟩
      have HQ3 := Lib.hid (HQ2.out.later hb)
      clear hb
      have z2 : (⟨(Zn.fld F (txts R) 2).toArray⟩ : ByteArray).size ≤ 44 := by rw [str_size]; exact HFL.out 2 (by omega)
      have HSP := Lib.hid (osplit ⟨(Zn.fld F (txts R) 2).toArray⟩ w8 (HDX.out.2.below HQ3.out.2.2) (by omega))
      obtain ⟨⟨SU, GI, FU, SE⟩, hsp⟩ : ∃ q, Opt.splV ⟨(Zn.fld F (txts R) 2).toArray⟩ = q := ⟨_, rfl⟩
      have hss := splV_size2 ⟨(Zn.fld F (txts R) 2).toArray⟩
      rw [hsp] at HSP hss
      have hPE := HPE5.out
      rw [hsp] at hPE
      unfold Opt.splR at HSP
      simp only at HSP hPE hss
      have HPE6 := Lib.hid hPE
      have HSPV := Lib.hid hsp
      have HSS2 := Lib.hid (And.intro (Nat.le_trans hss.1 z2) (Nat.le_trans hss.2 z2))
      clear hPE hsp hss z2 HPE5
      go_wp2_with fail
      refine HSP.out.mono ?_; rintro e w9 ⟨rfl, hb⟩
      have HQ4 := Lib.hid (HQ3.out.later hb)
      clear hb
      by_cases hS : SE ≠ 0
      · have HE := Lib.hid (show Zn.prsE (txts R) = SE from by rw [HPE6.out, if_pos hS])
        obtain ⟨x0, x1, x2, x3, x4, x5, x6, x7, x8, x9, x10, x11⟩ := HQ4.out.1.cells
        have xf := fun i => ZBox.free HQ4.out.1 i
        have e1 : (SE != 0) = true := by rw [bne_iff_ne]; exact hS
        have HN := Lib.hid hS
        clear hS
        go_wp2_with fail
        exact zparse_ret (z := Zn.Z.zero) rfl rfl HQ4.out.1 HQ4.out.2.2 (Zn.prs_fail HE.out HN.out) HE.out
      have hPE := HPE6.out
      rw [if_neg hS] at hPE
      obtain rfl : SE = 0 := by omega
      have HPE7 := Lib.hid hPE
      clear hPE HPE6 hS
      go_wp2_with fail
      refine (HVA.out _ HQ4.out.2.1 0 (by omega)).mono ?_; rintro e w10 ⟨rfl, hb⟩
      have HQ5 := Lib.hid (HQ4.out.later hb)
      clear hb
      obtain ⟨k0, hk0⟩ : ∃ k : ByteArray, k = ⟨(Zn.tr (Zn.fld F (txts R) 0)).toArray⟩ := ⟨_, rfl⟩
      rw [← hk0]
      have HK0 := Lib.hid hk0
      clear hk0
      go_wp2_with fail
      refine (HVA.out _ HQ5.out.2.1 1 (by omega)).mono ?_; rintro e w11 ⟨rfl, hb⟩
      have HQ6 := Lib.hid (HQ5.out.later hb)
      clear hb
      obtain ⟨k1, hk1⟩ : ∃ k : ByteArray, k = ⟨(Zn.tr (Zn.fld F (txts R) 1)).toArray⟩ := ⟨_, rfl⟩
      rw [← hk1]
      have HK1 := Lib.hid hk1
      clear hk1
      go_wp2_with fail
      refine (HVA.out _ HQ6.out.2.1 5 (by omega)).mono ?_; rintro e w12 ⟨rfl, hb⟩
      have HQ7 := Lib.hid (HQ6.out.later hb)
      clear hb
      obtain ⟨k5, hk5⟩ : ∃ k : ByteArray, k = ⟨(Zn.tr (Zn.fld F (txts R) 5)).toArray⟩ := ⟨_, rfl⟩
      rw [← hk5]
      have HK5 := Lib.hid hk5
      clear hk5
      go_wp2_with fail
      refine (HGE.out _ HQ7.out.2.1 6 (by omega)).mono ?_; rintro e w13 ⟨rfl, hb⟩
      have HQ8 := Lib.hid (HQ7.out.later hb)
      clear hb
      obtain ⟨k6, hk6⟩ : ∃ k : ByteArray, k = ⟨(Zn.fld F (txts R) 6).toArray⟩ := ⟨_, rfl⟩
      rw [← hk6]
      have HK6 := Lib.hid hk6
      clear hk6
      go_wp2_with fail
      refine (HGE.out _ HQ8.out.2.1 8 (by omega)).mono ?_; rintro e w14 ⟨rfl, hb⟩
      have HQ9 := Lib.hid (HQ8.out.later hb)
      clear hb
      obtain ⟨k8, hk8⟩ : ∃ k : ByteArray, k = ⟨(Zn.fld F (txts R) 8).toArray⟩ := ⟨_, rfl⟩
      rw [← hk8]
      have HK8 := Lib.hid hk8
      clear hk8
      go_wp2_with fail
      refine (HGE.out _ HQ9.out.2.1 9 (by omega)).mono ?_; rintro e w15 ⟨rfl, hb⟩
      have HQ10 := Lib.hid (HQ9.out.later hb)
      clear hb
      obtain ⟨k9, hk9⟩ : ∃ k : ByteArray, k = ⟨(Zn.fld F (txts R) 9).toArray⟩ := ⟨_, rfl⟩
      rw [← hk9]
      have HK9 := Lib.hid hk9
      clear hk9
      go_wp2_with fail
      refine (HVA.out _ HQ10.out.2.1 13 (by omega)).mono ?_; rintro e w16 ⟨rfl, hb⟩
      have HQ11 := Lib.hid (HQ10.out.later hb)
      clear hb
      obtain ⟨k13, hk13⟩ : ∃ k : ByteArray, k = ⟨(Zn.tr (Zn.fld F (txts R) 13)).toArray⟩ := ⟨_, rfl⟩
      rw [← hk13]
      have HK13 := Lib.hid hk13
      clear hk13
      obtain ⟨n1, hn1⟩ : ∃ k : ByteArray, k = ⟨N1.toArray⟩ := ⟨_, rfl⟩
      obtain ⟨n2, hn2⟩ : ∃ k : ByteArray, k = ⟨N2.toArray⟩ := ⟨_, rfl⟩
      rw [← hn1, ← hn2]
      obtain ⟨Z, hZ⟩ : ∃ Z : Zn.Z, Z = ⟨F, k0, k1, SU, GI, n1, k5, k6, k8, k9, n2, k13⟩ := ⟨_, rfl⟩
      have hZP : Zn.prsZ F (txts R) = Z := by
        unfold Zn.prsZ
        rw [HNN.out, HSPV.out, ← HK0.out, ← HK1.out, ← HK5.out, ← HK6.out, ← HK8.out, ← HK9.out, ← HK13.out, hZ, hn1, hn2]
      have hfit : Z.fits 140737488355328 := by
        have hnn := nums_len F HF1.out _ HSH.out
        rw [HNN.out] at hnn
        have ht : ∀ l : List UInt8, (Zn.tr l).length ≤ l.length := fun l => Opt.trim_le l
        have z0 : k0.size ≤ 44 := by rw [HK0.out, str_size]; exact Nat.le_trans (ht _) (HFL.out 0 (by omega))
        have z1 : k1.size ≤ 44 := by rw [HK1.out, str_size]; exact Nat.le_trans (ht _) (HFL.out 1 (by omega))
        have z5 : k5.size ≤ 44 := by rw [HK5.out, str_size]; exact Nat.le_trans (ht _) (HFL.out 5 (by omega))
        have z13 : k13.size ≤ 44 := by rw [HK13.out, str_size]; exact Nat.le_trans (ht _) (HFL.out 13 (by omega))
        have z6 : k6.size ≤ 44 := by rw [HK6.out, str_size]; exact HFL.out 6 (by omega)
        have z8 : k8.size ≤ 44 := by rw [HK8.out, str_size]; exact HFL.out 8 (by omega)
        have z9 : k9.size ≤ 44 := by rw [HK9.out, str_size]; exact HFL.out 9 (by omega)
        have zn1 : n1.size ≤ 88 := by rw [hn1, str_size]; exact hnn.1
        have zn2 : n2.size ≤ 88 := by rw [hn2, str_size]; exact hnn.2
        have zs := HSS2.out
        rw [hZ]
        refine ⟨?_, ?_, ?_, ?_, ?_, ?_, ?_, ?_, ?_, ?_, ?_⟩ <;> first | (show k0.size ≤ _; omega) | (show k1.size ≤ _; omega) | (show SU.size ≤ _; omega) | (show GI.size ≤ _; omega) | (show n1.size ≤ _; omega) | (show k5.size ≤ _; omega) | (show k6.size ≤ _; omega) | (show k8.size ≤ _; omega) | (show k9.size ≤ _; omega) | (show n2.size ≤ _; omega) | (show k13.size ≤ _; omega)
      have HZP := Lib.hid hZP; have HFIT := Lib.hid hfit
      have HZZ := Lib.hid hZ
      clear hZP hfit hn1 hn2 hZ
      go_upto_region 22 with fail
      have hbz : ZBox (w16.alloc (.cells #[.int .i64 F, .string k0, .string k1, .string SU, .string GI, .string n1, .string k5, .string k6, .string k8, .string k9, .string n2, .string k13] 42)) w16.heap.size Z := by rw [HZZ.out]; exact heap_alloc_new w16 _
      have hba := below_alloc1 w16 (.cells #[.int .i64 F, .string k0, .string k1, .string SU, .string GI, .string n1, .string k5, .string k6, .string k8, .string k9, .string n2, .string k13] 42)
      have hq12 := HQ11.out.later hba
      generalize w16.alloc (.cells #[.int .i64 F, .string k0, .string k1, .string SU, .string GI, .string n1, .string k5, .string k6, .string k8, .string k9, .string n2, .string k13] 42) = w17 at hbz hba hq12 ⊢
      have HBZ := Lib.hid hbz; have HQ12 := Lib.hid hq12
      have HVV := Lib.hid (show ∀ W, Dat.At W → Calls Tryz.prog 59 #[.agg #[.int .i64 Z.fmt, .string Z.kind, .string Z.state, .string Z.sur, .string Z.giv, .string Z.num, .string Z.nat, .string Z.birth, .string Z.sex, .string Z.exp, .string Z.opt, .string Z.sec]] W fun e w' => e = .returned (.int .i64 (Zn.vldE Z)) ∧ Below W.heap.size W w' from fun W hW => zvalidZ Z W HFIT.out hW)
      have hPE := HPE7.out
      rw [HZP.out] at hPE
      obtain ⟨vE, hvE⟩ : ∃ q, Zn.vldE Z = q := ⟨_, rfl⟩
      rw [hvE] at hPE HVV
      have HPE8 := Lib.hid hPE
      clear hbz hba hq12 hPE hvE HPE7
      obtain ⟨y0, y1, y2, y3, y4, y5, y6, y7, y8, y9, y10, y11⟩ := HBZ.out.cells
      go_wp2_with fail
      refine (HVV.out _ (HDX.out.1.below HQ12.out.2.2)).mono ?_; rintro e w18 ⟨rfl, hb⟩
      have HQ13 := Lib.hid (HQ12.out.later hb)
      have HBZ2 := Lib.hid (HBZ.out.later hb)
      clear hb y0 y1 y2 y3 y4 y5 y6 y7 y8 y9 y10 y11
      obtain ⟨x0, x1, x2, x3, x4, x5, x6, x7, x8, x9, x10, x11⟩ := HQ13.out.1.cells
      have xf := fun i => ZBox.free HQ13.out.1 i
      by_cases hE : vE ≠ 0
      · have HE := Lib.hid (show Zn.prsE (txts R) = vE from HPE8.out)
        have e1 : (vE != 0) = true := by rw [bne_iff_ne]; exact hE
        have HN := Lib.hid hE
        clear hE
        go_wp2_with fail
        exact zparse_ret (z := Zn.Z.zero) rfl rfl HQ13.out.1 HQ13.out.2.2 (Zn.prs_fail HE.out HN.out) HE.out
      obtain rfl : vE = 0 := by omega
      have HE := Lib.hid (show Zn.prsE (txts R) = 0 from HPE8.out)
      have HVZ := Lib.hid ((HPV.out HE.out).trans HZP.out)
      clear hE
      obtain ⟨y0, y1, y2, y3, y4, y5, y6, y7, y8, y9, y10, y11⟩ := HBZ2.out.cells
      go_wp2_with fail
      exact zparse_ret (z := Z) rfl rfl HQ13.out.1 HQ13.out.2.2 HVZ.out HE.out
end Go.Proofs.YtafbhadfeemppaaGreatDoor
