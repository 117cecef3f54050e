/- The walk of chapter 10: Split of the reference. -/
import Derived.Test.YtelngghecmkipaaGreatDoorOptSplitRef
namespace Go.Proofs.YtelngghecmkipaaGreatDoor
open Go.RowKit

/-- The two parts of the reference's Split, in a block. -/
def Opt.Two (w : World) (g : Nat) (A B : ByteArray) : Prop := w.heap[g]? = some (.cells #[.string A, .string B] 82 (0, 0))
theorem Opt.Two.c0 {w : World} {g : Nat} {A B : ByteArray} (h : Opt.Two w g A B) : w.cell? ⟨g, 0, none⟩ = some (.string A) := cell_of_row w g 0 _ _ _ h
theorem Opt.Two.c1 {w : World} {g : Nat} {A B : ByteArray} (h : Opt.Two w g A B) : w.cell? ⟨g, 1, none⟩ = some (.string B) := cell_of_row w g 1 _ _ _ h
theorem Opt.Two.fz {w : World} {g : Nat} {A B : ByteArray} (h : Opt.Two w g A B) (i : Nat) : w.frozen? ⟨g, i, none⟩ = false := by
  have h' : w.heap[g]? = _ := h
  simp [World.frozen?, h']
theorem Opt.Two.s0 {w : World} {g : Nat} {A B : ByteArray} (h : Opt.Two w g A B) (C : ByteArray) : Opt.Two (w.setCell ⟨g, 0, none⟩ (.string C)) g C B := by
  have := heap_setCell_same w g 0 _ _ (.string C) h
  unfold Opt.Two; rw [this]; rfl
theorem Opt.Two.s1 {w : World} {g : Nat} {A B : ByteArray} (h : Opt.Two w g A B) (C : ByteArray) : Opt.Two (w.setCell ⟨g, 1, none⟩ (.string C)) g A C := by
  have := heap_setCell_same w g 1 _ _ (.string C) h
  unfold Opt.Two; rw [this]; rfl
theorem Opt.at_len {t a b : List UInt8} {k q r : Nat} (h : Opt.At t k a b q r) : a.length ≤ k ∧ b.length ≤ k := by
  obtain ⟨_, _, hk, h⟩ := h
  have e : (t.take k).length = k := by simp; omega
  rcases h with ⟨_, h', h⟩ | ⟨_, _, _, h⟩ <;> rw [h] at e <;> simp at e
  · subst h'; simp; omega
  · omega
theorem below_set {B : Nat} {w0 w : World} (h : Below B w0 w) (p : Addr) (u : Value) (hp : B ≤ p.block) : Below B w0 (w.setCell p u) :=
  ⟨h.os, h.tape, h.output, by simpa [World.setCell] using h.size, fun i hi => (Below.heap_setCell w p u i (by rintro rfl; omega)).trans (h.block i hi)⟩
theorem Opt.spl_ret2 {A B : ByteArray} {x y : List UInt8} {t n : Nat} {c : UInt8} (hx : (⟨x.toArray⟩ : ByteArray) = A) (hy : (⟨y.toArray⟩ : ByteArray) = B) (h : t = n ↔ c ≠ 60) :
    Ending.returned (.tuple #[.string A, .string B, .bool ((c.toNat : Int) != 60), .int .i64 0]) = Opt.splR (⟨x.toArray⟩, ⟨y.toArray⟩, decide (t = n), 0) := by
  have e : ((c.toNat : Int) != 60) = decide (t = n) := by
    rw [Bool.eq_iff_iff, bne_iff_ne, decide_eq_true_eq, h]
    constructor
    · intro h1 h2; rw [h2] at h1; exact h1 rfl
    · intro h1 h2; apply h1; apply UInt8.toNat_inj.1; show c.toNat = 60; omega
  rw [hx, hy, e]; rfl
def Opt.rel (w : World) (T : ByteArray) (q r i : Value) (wr : World) : Prop := ∃ (k : Nat) (a b : List UInt8) (qn rn : Nat), i = .int .i64 k ∧ r = .int .i64 rn ∧ q = .int .i64 qn ∧ Opt.At T.data.toList k a b qn rn ∧
  Opt.Two wr w.heap.size ⟨(Opt.sub 60 32 a).toArray⟩ ⟨(Opt.sub 60 32 b).toArray⟩ ∧ Below w.heap.size w wr

set_option maxHeartbeats 4000000 in
theorem rsplit (s : ByteArray) (w : World) (hs : s.size ≤ 140737488351232) :
    Calls Tryz.prog 39 #[.string s] w fun e w' => e = Opt.splR (Opt.splV s) ∧ Below w.heap.size w w' := by
  by_cases h1 : s.size < 1
  · rw [Opt.splV_size (.inl h1)]
    go_enter Tryz.func39, Tryz.ntmps39
    go_wp2_with fail
    refine bodyPost_ret (results_tmp4 rfl _ _ _) rfl ?_
    exact ⟨rfl, Below.refl _ _⟩
  by_cases h2 : 64 < s.size
  · rw [Opt.splV_size (.inr h2)]
    go_enter Tryz.func39, Tryz.ntmps39
    go_wp2_with fail
    refine bodyPost_ret (results_tmp4 rfl _ _ _) rfl ?_
    exact ⟨rfl, Below.refl _ _⟩
  have h12 : ¬ (s.size < 1 ∨ 64 < s.size) := by omega
  have H12 := Lib.hid h12; clear h12
  go_enter Tryz.func39, Tryz.ntmps39
  go_wp2_with fail
  go_loop [6] (fun i => ∃ k : Nat, k ≤ s.size ∧ i = .int .i64 k ∧ ∀ j, j < k → Opt.fchar (s.data.toList.getD j 0) = true) (fun i => s.size - (intOf i).toNat)
  case atStart => exact ⟨0, Nat.zero_le _, rfl, fun j hj => absurd hj (by omega)⟩
  case round =>
    obtain ⟨k, hk, rfl, hv⟩ := hrel
    have HV := Lib.hid hv; clear hv
    by_cases hlt : k < s.size
    · have hb := u8_le s[k]
      have hlen : k < s.data.toList.length := by simpa using hlt
      have hg := Opt.getD_at s k hlt
      have next : Opt.fchar s[k] = true → ∀ j, j < k + 1 → Opt.fchar (s.data.toList.getD j 0) = true := fun h j hj => by
        rcases Nat.lt_or_ge j k with g | g
        · exact HV.out j g
        · obtain rfl : j = k := by omega
          rw [hg]; exact h
      have NX := Lib.hid next; clear next
      rcases Bool.eq_false_or_eq_true ((s[k].toNat : Int) == 60) with h60 | h60
      · have hy : Opt.fchar s[k] = true := by
          have : s[k] = 60 := by have := beq_iff_eq.1 h60; apply UInt8.toNat_inj.1; show s[k].toNat = 60; omega
          rw [this]; decide
        have hne : ((s[k].toNat : Int) != 60) = false := by unfold bne; rw [h60]; rfl
        have HY := Lib.hid hy; clear hy hg h60
        go_wp2_with fail
        go_round
        case rel => exact ⟨k + 1, by omega, by go_num, NX.out HY.out⟩
        case measure => simp [intOf]; omega
      · have hne : ((s[k].toNat : Int) != 60) = true := by unfold bne; rw [h60]; rfl
        have h2 : (s[k] == 60) = false := by rw [beq_eq_false_iff_ne]; rintro e; rw [e] at h60; simp at h60
        by_cases hc : 65 ≤ (s[k].toNat : Int) ∧ (s[k].toNat : Int) ≤ 90
        · have hy : Opt.fchar s[k] = true := by simp [Opt.fchar, Opt.isL, hc.1, hc.2]
          have hc1 := hc.1; have hc2 := hc.2
          have HY := Lib.hid hy; clear hy hc hg h60 h2
          go_wp2_with fail
          go_round
          case rel => exact ⟨k + 1, by omega, by go_num, NX.out HY.out⟩
          case measure => simp [intOf]; omega
        · have hy : Opt.chars s.data.toList = false := by
            refine Opt.chars_no hlen ?_
            rw [hg]
            have h1 : Opt.isL s[k] = false := by simp [Opt.isL]; omega
            simp [Opt.fchar, h1, h2]
          have HY := Lib.hid (Opt.splV_char H12.out hy)
          have hc' : (s[k].toNat : Int) < 65 ∨ (65 ≤ (s[k].toNat : Int) ∧ 90 < (s[k].toNat : Int)) := by omega
          clear hy hc hg h60 h2
          rcases hc' with hc | ⟨hc, hc2⟩
          all_goals
            go_wp2_with fail
            refine bodyPost_ret (results_tmp4 rfl _ _ _) rfl ?_
            exact ⟨by rw [HY.out]; rfl, Below.refl _ _⟩
    · obtain rfl : k = s.size := by omega
      have hch : Opt.chars s.data.toList = true := Opt.chars_yes fun j hj => HV.out j (by simpa using hj)
      have hs1 := Opt.splV_none H12.out hch
      have hs3 := fun x y => @Opt.splV_some s x y H12.out hch
      have hne : s.data.toList ≠ [] := by intro e; have := Opt.size_len s; rw [e] at this; simp at this; omega
      have hfull := Opt.trim_full s.data.toList hne
      have hgl := Opt.getD_at s (s.size - 1) (by omega)
      rw [Opt.size_len, hgl] at hfull
      have HF := Lib.hid hfull
      have hte := Opt.trim_end s.data.toList
      have hta := Opt.trim_all s.data.toList hch
      have HS1 := Lib.hid hs1; have HS3 := Lib.hid hs3
      have htl := Opt.trim_le s.data.toList
      rw [Opt.size_len] at htl
      clear hs1 hs3 hch HV hfull hgl hne
      go_wp2_with fail
      refine (rtrim s _ (by omega)).mono ?_; rintro e w1 ⟨rfl, rfl⟩
      generalize Lib.trimRightB s.data.toList 60 = t at htl HS1 HS3 HF hte hta ⊢
      obtain ⟨T, hT⟩ : ∃ T : ByteArray, (⟨t.toArray⟩ : ByteArray) = T := ⟨_, rfl⟩
      rw [hT]
      obtain rfl : T.data.toList = t := by rw [← hT]
      have hTs : T.size ≤ 64 := by rw [← Opt.size_len]; omega
      have HTE := Lib.hid hte; have HTA := Lib.hid hta
      clear hT htl hte hta
      go_wp2_with fail
      go_loopw [9, 10, 11] (Opt.rel w T) (fun _ _ i _ => T.size - (intOf i).toNat)
      case atStart =>
        refine ⟨0, [], [], 0, 0, rfl, rfl, rfl, Opt.at_start _, ?_, (Below.refl _ _).alloc (Nat.le_refl _) _⟩
        exact heap_alloc_new w _
      case round =>
        obtain ⟨k, a, b, q, r, rfl, rfl, rfl, hat, htw, hbl⟩ := hrel
        have hq := Opt.at_q hat
        have hr := Opt.at_r hat
        obtain ⟨A, hA⟩ : ∃ A : ByteArray, (⟨(Opt.sub 60 32 a).toArray⟩ : ByteArray) = A := ⟨_, rfl⟩
        obtain ⟨B, hB⟩ : ∃ B : ByteArray, (⟨(Opt.sub 60 32 b).toArray⟩ : ByteArray) = B := ⟨_, rfl⟩
        rw [hA, hB] at htw
        have hk : k ≤ T.size := by rw [← Opt.size_len]; exact hat.2.2.1
        have HA := Lib.hid hA; have HB := Lib.hid hB
        clear hA hB
        by_cases hlt : k < T.size
        · have hb := u8_le T[k]
          have hlen : k < T.data.toList.length := by rw [Opt.size_len]; exact hlt
          have q1 : IntKind.i64.wrap ((k : Int) + 1) = (k : Int) + 1 := IntWalk.i64_in _ (by omega)
          have q2 : ((k : Int) + 1).toNat = k + 1 := by omega
          rcases Bool.eq_false_or_eq_true ((T[k].toNat : Int) == 60) with h60 | h60
          · have hc : T[k] = 60 := by have := beq_iff_eq.1 h60; apply UInt8.toNat_inj.1; show T[k].toNat = 60; omega
            have HAT := Lib.hid (Opt.at_gap hat hlen hc)
            clear hat hc
            go_wp2_with fail
            go_roundw
            case rel => exact ⟨k + 1, a, b, q, r + 1, by go_num, by go_num, rfl, HAT.out, by rw [HA.out, HB.out]; exact htw, hbl⟩
            case measure => simp [intOf]; omega
          · have hL : Opt.isL T[k] = true := by
              have h1 := List.all_eq_true.1 HTA.out _ (List.getElem_mem hlen)
              have h2 : (T.data.toList[k] == 60) = false := by rw [beq_eq_false_iff_ne]; rintro e; have e' : T[k] = 60 := e; rw [e'] at h60; simp at h60
              unfold Opt.fchar at h1; rw [h2, Bool.or_false] at h1; exact h1
            have HL := Lib.hid hL
            have hext : T.extract k (k + 1) = ⟨[T[k]].toArray⟩ := by
              apply str_eq; rw [Lib.extract_data]
              have := List.drop_eq_getElem_cons hlen
              simp [this]
              rfl
            have hes : (T.extract k (k + 1)).size = 1 := by rw [hext]; rfl
            have hal := Opt.at_len hat
            have has : A.size ≤ 64 := by rw [← HA.out, str_size, Opt.sub_length]; omega
            have hbs : B.size ≤ 64 := by rw [← HB.out, str_size, Opt.sub_length]; omega
            have HEXT := Lib.hid hext
            clear hL hext
            have c0 := htw.c0; have c1 := htw.c1; have f0 := htw.fz 0; have f1 := htw.fz 1
            have HTW := Lib.hid htw; clear htw
            have HR := Lib.hid hr; clear hr
            have HBL := Lib.hid hbl; clear hbl
            by_cases e1 : 2 < r
            · have HN := Lib.hid (HS1.out (Opt.at_bad hat hlen (.inl e1))); clear hat
              have e1' : (2 : Int) < (r : Int) := by omega
              clear hq
              go_wp2_with fail
              refine bodyPost_ret (results_tmp4 rfl _ _ _) rfl ?_
              exact ⟨by rw [HN.out]; rfl, HBL.out⟩
            have e2 : r = 0 ∨ (r = 1 ∧ k = 1) ∨ (r = 1 ∧ k ≠ 1) ∨ (r = 2 ∧ k = 2) ∨ (r = 2 ∧ k ≠ 2) := by omega
            clear e1
            rcases e2 with rfl | ⟨rfl, rfl⟩ | ⟨rfl, e3⟩ | ⟨rfl, rfl⟩ | ⟨rfl, e3⟩
            · rcases hq with rfl | rfl
              · have HAT := Lib.hid (Opt.at_zero0 hat hlen HL.out); clear hat
                have HSTR := Lib.hid (show A ++ T.extract k (k + 1) = ⟨(Opt.sub 60 32 (a ++ [T[k]])).toArray⟩ from by rw [← HA.out, HEXT.out, str_add, Opt.sub_snoc _ _ HL.out])
                have hz : A.size + (T.extract k (k + 1)).size ≤ 9223372036854775807 := by omega
                go_wp2_with fail
                go_region
                go_wp2_with fail
                go_roundw
                case rel =>
                  refine ⟨k + 1, a ++ [T[k]], b, 0, 0, by go_num, rfl, rfl, HAT.out, ?_, (below_set HBL.out _ _ (Nat.le_refl _)).drew⟩
                  have h := HTW.out.s0 (A ++ T.extract k (k + 1))
                  rw [HSTR.out] at h ⊢
                  rw [HB.out]
                  exact h
                case measure => simp [intOf]; omega
              · have HAT := Lib.hid (Opt.at_zero1 hat hlen HL.out); clear hat
                have HSTR := Lib.hid (show B ++ T.extract k (k + 1) = ⟨(Opt.sub 60 32 (b ++ [T[k]])).toArray⟩ from by rw [← HB.out, HEXT.out, str_add, Opt.sub_snoc _ _ HL.out])
                have hz : B.size + (T.extract k (k + 1)).size ≤ 9223372036854775807 := by omega
                go_wp2_with fail
                go_region
                go_wp2_with fail
                go_roundw
                case rel =>
                  refine ⟨k + 1, a, b ++ [T[k]], 1, 0, by go_num, rfl, rfl, HAT.out, ?_, (below_set HBL.out _ _ (Nat.le_refl _)).drew⟩
                  have h := HTW.out.s1 (B ++ T.extract k (k + 1))
                  rw [HSTR.out] at h ⊢
                  rw [HA.out]
                  exact h
                case measure => simp [intOf]; omega
            · have HN := Lib.hid (HS1.out (Opt.at_bad hat hlen (.inr (.inl ⟨by omega, rfl⟩)))); clear hat hq
              go_wp2_with fail
              refine bodyPost_ret (results_tmp4 rfl _ _ _) rfl ?_
              exact ⟨by rw [HN.out]; rfl, HBL.out⟩
            · have e4 : ((k : Int) == 1) = false := by rw [beq_eq_false_iff_ne]; omega
              rcases hq with rfl | rfl
              · have HAT := Lib.hid (Opt.at_one0 hat hlen e3 HL.out); clear hat
                have HSTR := Lib.hid (show A ++ ⟨#[32]⟩ ++ T.extract k (k + 1) = ⟨(Opt.sub 60 32 (a ++ [60, T[k]])).toArray⟩ from by rw [← HA.out, HEXT.out, Opt.sub_gap _ _ HL.out, ← str_add, ← str_add])
                have h2 := HTW.out.s0 (A ++ ⟨#[32]⟩)
                have hbl2 := below_set HBL.out ⟨w.heap.size, 0, none⟩ (.string (A ++ ⟨#[32]⟩)) (Nat.le_refl _)
                have HTW2 := Lib.hid h2; have HBL2 := Lib.hid hbl2
                have hz0 : A.size + (⟨#[32]⟩ : ByteArray).size ≤ 9223372036854775807 := by show _ + 1 ≤ _; omega
                have hz1 : (A ++ (⟨#[32]⟩ : ByteArray)).size ≤ 65 := by rw [ByteArray.size_append]; show _ + 1 ≤ _; omega
                clear h2 hbl2
                have HZ1 := Lib.hid hz1; clear hz1
                go_upto_region 23 with fail
                have h2 := HTW2.out; have hbl2 := HBL2.out; have hz1 := HZ1.out; have hstr := HSTR.out
                generalize wr.setCell ⟨w.heap.size, 0, none⟩ (.string (A ++ ⟨#[32]⟩)) = wr2 at h2 hbl2 ⊢
                generalize A ++ (⟨#[32]⟩ : ByteArray) = C at h2 hz1 hstr
                clear HTW2 HBL2 HZ1 HSTR hz0 c0 c1 f0 f1 HTW HBL
                have c0 := h2.c0; have c1 := h2.c1; have f0 := h2.fz 0; have f1 := h2.fz 1
                have HTW := Lib.hid h2; have HBL := Lib.hid hbl2; have HSTR := Lib.hid hstr
                clear h2 hbl2 hstr
                have hz : C.size + (T.extract k (k + 1)).size ≤ 9223372036854775807 := by omega
                go_region
                go_wp2_with fail
                go_roundw
                case rel =>
                  refine ⟨k + 1, a ++ [60, T[k]], b, 0, 0, by go_num, rfl, rfl, HAT.out, ?_, (below_set HBL.out _ _ (Nat.le_refl _)).drew⟩
                  have h := HTW.out.s0 (C ++ T.extract k (k + 1))
                  rw [HSTR.out] at h ⊢
                  rw [HB.out]
                  exact h
                case measure => simp [intOf]; omega
              · have HAT := Lib.hid (Opt.at_one1 hat hlen HL.out); clear hat
                have HSTR := Lib.hid (show B ++ ⟨#[32]⟩ ++ T.extract k (k + 1) = ⟨(Opt.sub 60 32 (b ++ [60, T[k]])).toArray⟩ from by rw [← HB.out, HEXT.out, Opt.sub_gap _ _ HL.out, ← str_add, ← str_add])
                have h2 := HTW.out.s1 (B ++ ⟨#[32]⟩)
                have hbl2 := below_set HBL.out ⟨w.heap.size, 1, none⟩ (.string (B ++ ⟨#[32]⟩)) (Nat.le_refl _)
                have HTW2 := Lib.hid h2; have HBL2 := Lib.hid hbl2
                have hz0 : B.size + (⟨#[32]⟩ : ByteArray).size ≤ 9223372036854775807 := by show _ + 1 ≤ _; omega
                have hz1 : (B ++ (⟨#[32]⟩ : ByteArray)).size ≤ 65 := by rw [ByteArray.size_append]; show _ + 1 ≤ _; omega
                clear h2 hbl2
                have HZ1 := Lib.hid hz1; clear hz1
                go_upto_region 23 with fail
                have h2 := HTW2.out; have hbl2 := HBL2.out; have hz1 := HZ1.out; have hstr := HSTR.out
                generalize wr.setCell ⟨w.heap.size, 1, none⟩ (.string (B ++ ⟨#[32]⟩)) = wr2 at h2 hbl2 ⊢
                generalize B ++ (⟨#[32]⟩ : ByteArray) = C at h2 hz1 hstr
                clear HTW2 HBL2 HZ1 HSTR hz0 c0 c1 f0 f1 HTW HBL
                have c0 := h2.c0; have c1 := h2.c1; have f0 := h2.fz 0; have f1 := h2.fz 1
                have HTW := Lib.hid h2; have HBL := Lib.hid hbl2; have HSTR := Lib.hid hstr
                clear h2 hbl2 hstr
                have hz : C.size + (T.extract k (k + 1)).size ≤ 9223372036854775807 := by omega
                go_region
                go_wp2_with fail
                go_roundw
                case rel =>
                  refine ⟨k + 1, a, b ++ [60, T[k]], 1, 0, by go_num, rfl, rfl, HAT.out, ?_, (below_set HBL.out _ _ (Nat.le_refl _)).drew⟩
                  have h := HTW.out.s1 (C ++ T.extract k (k + 1))
                  rw [HSTR.out] at h ⊢
                  rw [HA.out]
                  exact h
                case measure => simp [intOf]; omega
            · have HN := Lib.hid (HS1.out (Opt.at_bad hat hlen (.inr (.inl ⟨by omega, rfl⟩)))); clear hat hq
              go_wp2_with fail
              refine bodyPost_ret (results_tmp4 rfl _ _ _) rfl ?_
              exact ⟨by rw [HN.out]; rfl, HBL.out⟩
            · have e4 : ((k : Int) == 2) = false := by rw [beq_eq_false_iff_ne]; omega
              rcases hq with rfl | rfl
              · obtain ⟨rfl, hat2⟩ := Opt.at_two hat hlen e3 HL.out
                have HAT := Lib.hid hat2; clear hat hat2
                have HSTR := Lib.hid (show B ++ T.extract k (k + 1) = ⟨(Opt.sub 60 32 [T[k]]).toArray⟩ from by rw [← HB.out, HEXT.out, str_add]; have := Opt.sub_snoc [] T[k] HL.out; rw [List.nil_append] at this; rw [this])
                have hz : B.size + (T.extract k (k + 1)).size ≤ 9223372036854775807 := by omega
                go_wp2_with fail
                go_region
                go_wp2_with fail
                go_roundw
                case rel =>
                  refine ⟨k + 1, a, [T[k]], 1, 0, by go_num, rfl, rfl, HAT.out, ?_, (below_set HBL.out _ _ (Nat.le_refl _)).drew⟩
                  have h := HTW.out.s1 (B ++ T.extract k (k + 1))
                  rw [HSTR.out] at h ⊢
                  rw [HA.out]
                  exact h
                case measure => simp [intOf]; omega
              · have HN := Lib.hid (HS1.out (Opt.at_bad hat hlen (.inr (.inr ⟨rfl, rfl⟩)))); clear hat
                go_wp2_with fail
                refine bodyPost_ret (results_tmp4 rfl _ _ _) rfl ?_
                exact ⟨by rw [HN.out]; rfl, HBL.out⟩
        · obtain rfl : k = T.size := by omega
          have hat' := hat
          rw [← Opt.size_len] at hat'
          have hen := Opt.at_end hat' HTE.out
          have hes := (fun (v : Bool) (h : a.isEmpty = v) => (str_empty (s := A) (l := Opt.sub 60 32 a) (by rw [← HA.out]) (b := v) (by rw [← h]; cases a <;> rfl)).1)
          have HEN := Lib.hid hen; have HES := Lib.hid hes
          clear hen hes hat hat'
          have c0 := htw.c0; have c1 := htw.c1
          have HTW := Lib.hid htw; clear htw hq hr
          by_cases ha : a = []
          · have HN := Lib.hid (HS1.out (HEN.out.1 ha))
            have he := HES.out true (by rw [ha]; rfl)
            clear ha
            go_wp2_with fail
            refine bodyPost_ret (results_tmp4 rfl _ _ _) rfl ?_
            exact ⟨by rw [HN.out]; rfl, hbl⟩
          · have HN := Lib.hid (HS3.out _ _ (HEN.out.2 ha))
            have he := HES.out false (by cases a with | nil => exact absurd rfl ha | cons _ _ => rfl)
            clear ha
            have q1 : IntKind.i64.wrap ((s.size : Int) - 1) = (s.size : Int) - 1 := IntWalk.i64_in _ (by omega)
            have q2 : ((s.size : Int) - 1).toNat = s.size - 1 := by omega
            have q3 : (s.size : Int) - 1 < (s.size : Int) := by omega
            have q4 : 0 ≤ (s.size : Int) - 1 := by omega
            have q5 : s.size - 1 < s.size := by omega
            go_wp2_with fail
            go_quiet (fail)
            go_wp2_with fail
            refine bodyPost_ret (results_tmp4 rfl _ _ _) rfl ?_
            refine ⟨?_, below_drewN hbl _⟩
            rw [HN.out]
            exact Opt.spl_ret2 HA.out HB.out HF.out
end Go.Proofs.YtelngghecmkipaaGreatDoor
