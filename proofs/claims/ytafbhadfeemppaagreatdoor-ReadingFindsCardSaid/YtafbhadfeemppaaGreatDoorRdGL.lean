/- Chapter 12: several texts in one (RdLaid, RdSim). -/
import Derived.Test.YtafbhadfeemppaaGreatDoorRdGR
import Derived.Test.YtafbhadfeemppaaGreatDoorRows
import Derived.Lib.LaidTab
import Derived.LaidSub
import Derived.MakeChecks
import Derived.Shelf.Vars
import Derived.Test.YtafbhadfeemppaaGreatDoorRdGO
import Derived.Test.YtafbhadfeemppaaGreatDoorShelf
namespace Go.Proofs.YtafbhadfeemppaaGreatDoor
open Go.RowKit Go.ChangeShapes Go.WideShapes

/-- What the world's shape says of the library's variable. -/
theorem Opt.lax_of {W : World} (h : W.ShapedOpen Tryz.prog) : Opt.Lax W := Tryz.laysM145.s1_3 W h
/-- An array of strings that reads as given holds them. -/
theorem cells_of_strs {H : Type} {enc : TypeId × Value → H} {P : Program} {w : World} {base : Nat} {sp : Nat → Bool} {held : Bool} {fuel : Nat} {t e : TypeId} {n : Nat} {cs : List Value} {zs : List (List UInt8)} {p : List MemPlace}
    (ht : P.underlying t = some (.array n e)) (he : P.underlying e = some .string) (hce : P.cellsOf e = 1) (hct : P.cellsOf t = n)
    (h : DataW.trod enc P w base sp held fuel t cs = some (.agg (zs.map fun z => .lit (.string z)), p)) : cs = zs.map fun z => Value.string ⟨z.toArray⟩ := by
  cases fuel with
  | zero => simp [DataW.trod] at h
  | succ fuel =>
    simp only [DataW.trod, ht, hce, hct, Nat.mul_one] at h
    split at h
    · rename_i hl
      obtain ⟨xs, hm, hx⟩ := Option.map_eq_some_iff.1 h
      have hxs : xs.map (·.1) = zs.map fun z => (DataW.lit (.string z) : DataW H) := by
        have := congrArg Prod.fst hx
        simpa using this
      have hxl : xs.length = n := by simpa using Lib.mapM_length hm
      have hzl : zs.length = n := by
        have := congrArg List.length hxs
        simp at this
        omega
      apply List.ext_getElem?
      intro i
      by_cases hi : i < n
      · obtain ⟨b, hb, hf⟩ := Lib.mapM_at hm i i (by simp [hi])
        obtain ⟨z, hc, rfl, _⟩ := DataW.trod_string he hf
        have h1 : cs[i]? = some (.string z) := by
          have := congrArg (·[0]?) hc
          simpa [List.getElem?_take, List.getElem?_drop] using this
        have h2 : (xs.map (·.1))[i]? = some (DataW.lit (.string z.data.toList) : DataW H) := by simp [hb]
        rw [hxs] at h2
        simp only [List.getElem?_map, Option.map_eq_some_iff, DataW.lit.injEq, Lit.string.injEq] at h2
        obtain ⟨z', hz', rfl⟩ := h2
        simp [h1, hz']
      · rw [List.getElem?_eq_none (by omega), List.getElem?_eq_none (by simp; omega)]
    · cases h
/-- The groups of similar characters. -/
def grps : List (List UInt8) := [[48, 68, 79, 81], [49, 73, 76], [50, 90], [53, 83], [54, 71], [56, 66]]
def GrpAt (W : World) : Prop := ∀ i (h : i < grps.length), W.cell? ⟨0, i, none⟩ = some (.string ⟨(grps[i]).toArray⟩)
theorem grp_of {W : World} (h : laidMet Tryz.prog [("traveldoc/traveldocref12.groups", Rows.laid_traveldoc_traveldocref12_groups)] W) : GrpAt W := by
  obtain ⟨ps, ⟨g', t', cs, fuel, p, q, hg', ht', hvar, hd, _, _⟩, _⟩ := h
  have hg : Tryz.prog.globalNamed "traveldoc/traveldocref12.groups" = some 0 := by kernel_rfl
  obtain rfl := Option.some.inj (hg.symm.trans hg')
  obtain rfl := Option.some.inj ((by kernel_rfl : (Tryz.prog.globals[(0 : Nat)]?).map (·.type) = some 58).symm.trans ht')
  have hc := cells_of_strs (zs := grps) Tryz.underlying58 Tryz.underlying9 (by kernel_rfl) (by kernel_rfl) hd
  intro i hi
  have := World.var?_cell hg hvar i
  rw [← Array.getElem?_toList, hc] at this
  rw [this]
  simp [hi]
theorem dat_of {W : World} {rest : List (String × DataW Unit)} (h : laidMet Tryz.prog (("traveldoc/dates.lengths", Rows.laid_traveldoc_dates_lengths) :: rest) W) : Dat.At W := by
  have hg : Tryz.prog.globalNamed "traveldoc/dates.lengths" = some 2 := by kernel_rfl
  have h1 := Lib.tabIs_of_head (P := Tryz.prog) (name := "traveldoc/dates.lengths") (k := .i64) (zs := [31, 28, 31, 30, 31, 30, 31, 31, 30, 31, 30, 31]) (rest := rest) hg (t := 175) (by kernel_rfl) Tryz.underlying175 Tryz.underlying3 (by kernel_rfl) (by kernel_rfl) h
  intro i hi
  exact h1.cell hg i hi
end Go.Proofs.YtafbhadfeemppaaGreatDoor

namespace Go.Proofs.YtafbhadfeemppaaGreatDoor
open Go.RowKit

/-- The group of a character, or itself. -/
def simL (c : UInt8) : List UInt8 := if Opt.val (c.toNat : Int) < 0 then [] else (grps.find? fun g => g.contains c).getD [c]
def simS (c : UInt8) : ByteArray := ⟨(simL c).toArray⟩
theorem simL_back : ∀ c : UInt8, ∀ d ∈ simL c, simL d = simL c := by
  have h : (List.range 256).all (fun n => (simL (UInt8.ofNat n)).all fun d => decide (simL d = simL (UInt8.ofNat n))) = true := by kernel_rfl
  intro c d hd
  have h1 := List.all_eq_true.1 h c.toNat (List.mem_range.2 c.toNat_lt)
  rw [show UInt8.ofNat c.toNat = c by simp] at h1
  exact of_decide_eq_true (List.all_eq_true.1 h1 d hd)
theorem find_no {c : UInt8} {k : Nat} (h : ∀ i (hi : i < grps.length), i < k → grps[i].contains c = false) : (grps.take k).find? (fun g => g.contains c) = none := by
  rw [List.find?_eq_none]
  intro g hg
  obtain ⟨i, hi, rfl⟩ := List.getElem_of_mem hg
  rw [List.getElem_take]
  rw [List.length_take] at hi
  rw [h i (by omega) (by omega)]; decide
theorem simL_hit {c : UInt8} (hv : ¬ Opt.val (c.toNat : Int) < 0) {k : Nat} (hk : k < grps.length) (h : ∀ i (hi : i < grps.length), i < k → grps[i].contains c = false) (hc : grps[k].contains c = true) : simL c = grps[k] := by
  unfold simL
  rw [if_neg hv]
  have e : grps = grps.take k ++ grps[k] :: grps.drop (k + 1) := by rw [List.getElem_cons_drop, List.take_append_drop]
  have e2 : grps.find? (fun g => g.contains c) = some grps[k] := by
    have h1 : (grps.take k ++ grps[k] :: grps.drop (k + 1)).find? (fun g => g.contains c) = some grps[k] := by
      rw [List.find?_append, find_no h, List.find?_cons_of_pos (p := fun (g : List UInt8) => g.contains c) (a := grps[k]) (by exact hc)]; rfl
    rwa [← e] at h1
  rw [e2]; rfl
theorem simL_miss {c : UInt8} (hv : ¬ Opt.val (c.toNat : Int) < 0) (h : ∀ i (hi : i < grps.length), grps[i].contains c = false) : simL c = [c] := by
  unfold simL
  rw [if_neg hv]
  have := find_no (k := grps.length) (c := c) fun i hi _ => h i hi
  rw [List.take_length] at this
  rw [this]; rfl
set_option maxRecDepth 100000 in
theorem conv_rune (n : Int) (h1 : 48 ≤ n) (h2 : n ≤ 90) (w : World) : Sem.run Tryz.prog (convert 21 9 (.int .i32 n)) w = .ok (.string ⟨#[b8 n]⟩) w := by
  have h : n = 48 ∨ n = 49 ∨ n = 50 ∨ n = 51 ∨ n = 52 ∨ n = 53 ∨ n = 54 ∨ n = 55 ∨ n = 56 ∨ n = 57 ∨ n = 58 ∨ n = 59 ∨ n = 60 ∨ n = 61 ∨ n = 62 ∨ n = 63 ∨ n = 64 ∨ n = 65 ∨ n = 66 ∨ n = 67 ∨ n = 68 ∨ n = 69 ∨ n = 70 ∨ n = 71 ∨ n = 72 ∨ n = 73 ∨ n = 74 ∨ n = 75 ∨ n = 76 ∨ n = 77 ∨ n = 78 ∨ n = 79 ∨ n = 80 ∨ n = 81 ∨ n = 82 ∨ n = 83 ∨ n = 84 ∨ n = 85 ∨ n = 86 ∨ n = 87 ∨ n = 88 ∨ n = 89 ∨ n = 90 := by omega
  clear h1 h2
  rcases h with rfl | rfl | rfl | rfl | rfl | rfl | rfl | rfl | rfl | rfl | rfl | rfl | rfl | rfl | rfl | rfl | rfl | rfl | rfl | rfl | rfl | rfl | rfl | rfl | rfl | rfl | rfl | rfl | rfl | rfl | rfl | rfl | rfl | rfl | rfl | rfl | rfl | rfl | rfl | rfl | rfl | rfl | rfl <;> exact rfl
theorem val_range {n : Int} (h : ¬ Opt.val n < 0) : 48 ≤ n ∧ n ≤ 90 := by
  unfold Opt.val at h
  split at h
  · omega
  · split at h
    · omega
    · split at h
      · omega
      · omega
theorem idx_contains (c : UInt8) : ∀ g ∈ grps, (0 ≤ Lib.indexByte g c ↔ g.contains c = true) := by
  have h : (List.range 256).all (fun n => grps.all fun g => decide (0 ≤ Lib.indexByte g (UInt8.ofNat n)) == g.contains (UInt8.ofNat n)) = true := by kernel_rfl
  intro g hg
  have h1 := List.all_eq_true.1 (List.all_eq_true.1 h c.toNat (List.mem_range.2 c.toNat_lt)) g hg
  rw [show UInt8.ofNat c.toNat = c by simp] at h1
  have h2 := eq_of_beq h1
  rw [← h2, decide_eq_true_eq]
theorem oindex (g : List UInt8) (c : UInt8) (w : World) : Calls Tryz.prog 33 #[.string ⟨g.toArray⟩, .int .u8 (c.toNat : Int)] w fun e w' => e = .returned (.int .i64 (Lib.indexByte g c)) ∧ w = w' :=
  (Tryz.strings_IndexByte ⟨g.toArray⟩ (c.toNat : Int) w).mono fun e w' ⟨h1, h2⟩ => ⟨by rw [h1]; congr 3; simp, h2.symm⟩
set_option maxRecDepth 100000 in
set_option maxHeartbeats 2000000 in
theorem osimilar (c : UInt8) (w : World) : Calls Tryz.prog 10 #[.int .u8 (c.toNat : Int)] w fun e w' => e = .returned (.string (simS c)) ∧ Below w.heap.size w w' := by
  have hc := u8_le c
  by_cases hv : Opt.val (c.toNat : Int) < 0
  · have HS := Lib.hid (show simS c = ⟨#[]⟩ by unfold simS simL; rw [if_pos hv])
    have HV := Lib.hid hv
    obtain ⟨V, hV⟩ : ∃ V, Opt.val (c.toNat : Int) = V := ⟨_, rfl⟩
    have HO := Lib.hid (fun w => ovalue (c.toNat : Int) w hc.1 hc.2)
    rw [hV] at HO hv
    clear hV
    go_enter Tryz.func10, Tryz.ntmps10
    go_wp2_with fail
    refine (HO.out _).mono ?_; rintro e w1 ⟨rfl, rfl⟩
    go_wp2_with fail
    go_ret
    exact ⟨by rw [HS.out]; rfl, Below.refl _ _⟩
  · have HV := Lib.hid (show ¬ (Opt.val (c.toNat : Int) < 0) ∧ True from ⟨hv, trivial⟩)
    have hr := val_range hv
    have HCV := Lib.hid (conv_rune (c.toNat : Int) (by omega) (by omega))
    have hb8 : b8 (c.toNat : Int) = c := by unfold b8; simp
    rw [hb8] at HCV
    obtain ⟨V, hV⟩ : ∃ V, Opt.val (c.toNat : Int) = V := ⟨_, rfl⟩
    have HO := Lib.hid (fun w => ovalue (c.toNat : Int) w hc.1 hc.2)
    rw [hV] at HO hv
    clear hV hb8
    have HN := Lib.hid (texts_new w (grps.map fun g => ⟨g.toArray⟩))
    have HB1 := Lib.hid (below_alloc1 w (.cells ((grps.map fun g => (⟨g.toArray⟩ : ByteArray)).map Value.string).toArray 9))
    go_enter Tryz.func10, Tryz.ntmps10
    go_wp2_with fail
    refine (HO.out _).mono ?_; rintro e w1 ⟨rfl, rfl⟩
    go_upto_region 4 with fail
    have hn : TextsAt (w.alloc (.cells #[.string ⟨#[48, 68, 79, 81]⟩, .string ⟨#[49, 73, 76]⟩, .string ⟨#[50, 90]⟩, .string ⟨#[53, 83]⟩, .string ⟨#[54, 71]⟩, .string ⟨#[56, 66]⟩] 9)) _ _ := HN.out
    have hb : Below w.heap.size w (w.alloc (.cells #[.string ⟨#[48, 68, 79, 81]⟩, .string ⟨#[49, 73, 76]⟩, .string ⟨#[50, 90]⟩, .string ⟨#[53, 83]⟩, .string ⟨#[54, 71]⟩, .string ⟨#[56, 66]⟩] 9)) := HB1.out
    clear HN HB1
    generalize w.alloc (.cells #[.string ⟨#[48, 68, 79, 81]⟩, .string ⟨#[49, 73, 76]⟩, .string ⟨#[50, 90]⟩, .string ⟨#[53, 83]⟩, .string ⟨#[54, 71]⟩, .string ⟨#[56, 66]⟩] 9) = w6 at hn hb ⊢
    have HN := Lib.hid hn; have HB := Lib.hid hb
    clear hn hb
    go_wp2_with fail
    go_loop [10] (fun v => ∃ k : Nat, k ≤ 6 ∧ v = .int .i64 k ∧ ∀ i (hi : i < grps.length), i < k → grps[i].contains c = false) (fun v => 6 - (intOf v).toNat)
    case atStart => exact ⟨0, Nat.zero_le _, rfl, fun i _ h => absurd h (by omega)⟩
    case round =>
      obtain ⟨k, hk, rfl, hall⟩ := hrel
      have HA := Lib.hid hall
      clear hall
      by_cases hlt : k < 6
      · have hkg : k < grps.length := hlt
        obtain ⟨b, off, e, hc0⟩ := HN.out.cell k (by rw [List.length_map]; exact hkg)
        injection e with e; injection e with e1 e2
        subst e1; subst e2
        rw [List.getElem_map] at hc0
        obtain ⟨g, hg⟩ : ∃ g, grps[k]'hkg = g := ⟨_, rfl⟩
        rw [hg] at hc0
        have HG := Lib.hid hg
        have HM := Lib.hid (idx_contains c g (by rw [← hg]; exact List.getElem_mem _))
        obtain ⟨s, hs⟩ : ∃ s : ByteArray, ⟨g.toArray⟩ = s := ⟨_, rfl⟩
        have hix := fun W => oindex g c W
        rw [hs] at hc0 hix
        obtain ⟨q, hq⟩ : ∃ q, Lib.indexByte g c = q := ⟨_, rfl⟩
        rw [hq] at hix HM
        have HIX := Lib.hid hix; have HS := Lib.hid hs; have HLT := Lib.hid hkg
        rw [Nat.zero_add] at hc0
        clear hg hs hix hq
        by_cases h0 : 0 ≤ q
        · have HR := Lib.hid (show simS c = s by
            unfold simS
            have hV' : ¬ (Opt.val (c.toNat : Int) < 0) := by have := HV.out; omega
            rw [simL_hit hV' HLT.out HA.out (by rw [HG.out]; exact HM.out.1 h0), HG.out, HS.out])
          go_wp2_with fail
          refine (HIX.out _).mono ?_; rintro e w7 ⟨rfl, rfl⟩
          go_wp2_with fail
          go_ret
          exact ⟨by rw [HR.out]; rfl, HB.out⟩
        · have HCF := Lib.hid (show g.contains c = false by
            cases hcc : g.contains c with
            | false => rfl
            | true => exact absurd (HM.out.2 hcc) h0)
          go_wp2_with fail
          refine (HIX.out _).mono ?_; rintro e w7 ⟨rfl, rfl⟩
          go_wp2_with fail
          go_round
          case rel =>
            refine ⟨k + 1, hlt, by go_num, fun i hi h => ?_⟩
            rcases Nat.lt_or_ge i k with g | g
            · exact HA.out i hi g
            · obtain rfl : i = k := by omega
              rw [HG.out]; exact HCF.out
          case measure => simp [intOf]; omega
      · obtain rfl : k = 6 := by omega
        have HR := Lib.hid (show simS c = ⟨#[c]⟩ by
          unfold simS
          have hV' : ¬ (Opt.val (c.toNat : Int) < 0) := by have := HV.out; omega
          rw [simL_miss hV' (fun i hi => HA.out i hi hi)])
        have hcv := HCV.out w6
        clear hlt hk
        go_wp2_with fail
        go_ret
        exact ⟨by rw [HR.out]; rfl, HB.out⟩
theorem not_contains {l : List UInt8} {c : UInt8} (h : ∀ m (hm : m < l.length), l[m] ≠ c) : l.contains c = false := by
  cases hc : l.contains c with
  | false => rfl
  | true =>
    obtain ⟨m, hm, e⟩ := List.getElem_of_mem (List.contains_iff_mem.1 hc)
    exact absurd e (h m hm)
set_option maxRecDepth 100000 in
set_option maxHeartbeats 2000000 in
theorem rsimilar (c : UInt8) (w : World) (hG : GrpAt w) : Calls Tryz.prog 12 #[.int .u8 (c.toNat : Int)] w fun e w' => e = .returned (.string (simS c)) ∧ Below w.heap.size w w' := by
  have hc := u8_le c
  by_cases hv : Opt.val (c.toNat : Int) < 0
  · have HS := Lib.hid (show simS c = ⟨#[]⟩ by unfold simS simL; rw [if_pos hv])
    obtain ⟨V, hV⟩ : ∃ V, Opt.val (c.toNat : Int) = V := ⟨_, rfl⟩
    have HO := Lib.hid (fun w => rvalue (c.toNat : Int) w hc.1 hc.2)
    rw [hV] at HO hv
    clear hV
    go_enter Tryz.func12, Tryz.ntmps12
    go_wp2_with fail
    refine (HO.out _).mono ?_; rintro e w1 ⟨rfl, rfl⟩
    go_wp2_with fail
    go_ret
    exact ⟨by rw [HS.out]; rfl, Below.refl _ _⟩
  · have HV := Lib.hid (show ¬ (Opt.val (c.toNat : Int) < 0) ∧ True from ⟨hv, trivial⟩)
    have HGR := Lib.hid hG
    have hcv := conv_one (P := Tryz.prog) w 59 9 5 (c.toNat : Int) hc 1 Tryz.underlying59 Tryz.underlying5 Tryz.underlying9
    have hb8 : b8 (c.toNat : Int) = c := by unfold b8; simp
    rw [hb8] at hcv
    have HCV := Lib.hid hcv
    obtain ⟨V, hV⟩ : ∃ V, Opt.val (c.toNat : Int) = V := ⟨_, rfl⟩
    have HO := Lib.hid (fun w => rvalue (c.toNat : Int) w hc.1 hc.2)
    rw [hV] at HO hv
    clear hV hb8 hG hcv
    go_enter Tryz.func12, Tryz.ntmps12
    go_wp2_with fail
    refine (HO.out _).mono ?_; rintro e w1 ⟨rfl, rfl⟩
    go_wp2_with fail
    go_loop [3] (fun v => ∃ i : Nat, i ≤ 6 ∧ v = .int .i64 i ∧ ∀ m (hm : m < grps.length), m < i → grps[m].contains c = false) (fun v => 6 - (intOf v).toNat)
    case atStart => exact ⟨0, Nat.zero_le _, rfl, fun i _ h => absurd h (by omega)⟩
    case round =>
      obtain ⟨i, hi, rfl, hall⟩ := hrel
      have HA := Lib.hid hall
      clear hall
      by_cases hlt : i < 6
      · have hig : i < grps.length := hlt
        have e0 := HGR.out i hig
        obtain ⟨g, hg⟩ : ∃ g, grps[i]'hig = g := ⟨_, rfl⟩
        rw [hg] at e0
        have HG := Lib.hid hg
        obtain ⟨s, hs⟩ : ∃ s : ByteArray, ⟨g.toArray⟩ = s := ⟨_, rfl⟩
        rw [hs] at e0
        have hsz : s.size = g.length := by rw [← hs]; exact str_size g
        have hgs : g.length ≤ 4 := by
          have : ∀ g ∈ grps, g.length ≤ 4 := by decide
          exact this g (by rw [← hg]; exact List.getElem_mem _)
        have hget : ∀ m (hm : m < s.size) (hm' : m < g.length), s[m]'hm = g[m]'hm' := by intro m hm hm'; subst hs; rfl
        have HS := Lib.hid hs; have HSZ := Lib.hid hsz; have HGET := Lib.hid hget
        have hs4 : s.size ≤ 4 := by omega
        clear hg hs hsz hgs hget
        go_wp2_with fail
        go_loop [4] (fun v => ∃ k : Nat, k ≤ s.size ∧ v = .int .i64 k ∧ ∀ m (hm : m < g.length), m < k → g[m] ≠ c) (fun v => s.size - (intOf v).toNat)
        case atStart => exact ⟨0, Nat.zero_le _, rfl, fun m _ h => absurd h (by omega)⟩
        case round =>
          obtain ⟨k, hk, rfl, hall⟩ := hrel
          have HB := Lib.hid hall
          clear hall
          by_cases hkt : k < s.size
          · obtain ⟨q, hq⟩ : ∃ q, s[k]'hkt = q := ⟨_, rfl⟩
            have hkg : k < g.length := by have := HSZ.out; omega
            have HQ := Lib.hid (show g[k]'hkg = q by rw [← HGET.out k hkt hkg]; exact hq)
            have HKT := Lib.hid hkt
            by_cases hqc : q = c
            · have d1 : (((s[k]'hkt).toNat : Int) == (c.toNat : Int)) = true := by rw [hq, hqc]; exact beq_self_eq_true _
              have HR := Lib.hid (show simS c = s by
                have hV' : ¬ (Opt.val (c.toNat : Int) < 0) := by have := HV.out; omega
                unfold simS
                rw [simL_hit hV' hig HA.out (by rw [HG.out]; exact List.contains_iff_mem.2 (by rw [← hqc, ← HQ.out]; exact List.getElem_mem _)), HG.out, HS.out])
              clear hq hqc
              go_wp2_with fail
              go_ret
              exact ⟨by rw [HR.out]; rfl, Below.refl _ _⟩
            · have d1 : (((s[k]'hkt).toNat : Int) == (c.toNat : Int)) = false := by
                rw [hq, beq_eq_false_iff_ne]
                intro e
                exact hqc (UInt8.toNat_inj.1 (by omega))
              have HQC := Lib.hid hqc
              clear hq hqc
              go_wp2_with fail
              go_round
              case rel =>
                refine ⟨k + 1, HKT.out, by go_num, fun m hm h => ?_⟩
                rcases Nat.lt_or_ge m k with g' | g'
                · exact HB.out m hm g'
                · obtain rfl : m = k := by omega
                  rw [HQ.out]; exact HQC.out
              case measure => have := HKT.out; simp [intOf]; omega
          · obtain rfl : k = s.size := by omega
            go_wp2_with fail
            go_round
            case rel =>
              refine ⟨i + 1, hlt, by go_num, fun m hm h => ?_⟩
              rcases Nat.lt_or_ge m i with g' | g'
              · exact HA.out m hm g'
              · obtain rfl : m = i := by omega
                rw [HG.out]
                exact not_contains fun m hm => HB.out m hm (by have := HSZ.out; omega)
            case measure => simp [intOf]; omega
      · obtain rfl : i = 6 := by omega
        have HR := Lib.hid (show simS c = ⟨#[c]⟩ by
          have hV' : ¬ (Opt.val (c.toNat : Int) < 0) := by have := HV.out; omega
          unfold simS
          rw [simL_miss hV' (fun i hi => HA.out i hi hi)])
        have hcv := HCV.out
        clear hlt hi
        go_wp2_with fail
        go_ret
        exact ⟨by rw [HR.out]; rfl, below_alloc1 w _⟩
end Go.Proofs.YtafbhadfeemppaaGreatDoor
