/- Several texts in one: StrKep, StrVls. -/
import Derived.Test.YtihbmgkbipeakaaGreatWebG0
import Derived.Test.YtihbmgkbipeakaaGreatWebG19
import Derived.Test.YtihbmgkbipeakaaGreatWebG8
import Derived.Test.YtihbmgkbipeakaaGreatWebG20
namespace Go.Proofs.YtihbmgkbipeakaaGreat
open Go.RowKit T

attribute [local go_sem ↓] Go.wp_at_zero Go.wp_at_succ

/-- Is a binding in a list, from place j on? -/
def inB (y : Bd) (b : List Bd) : Bool := b.any fun z => decide (y.var = z.var) && decide (cmp y.t z.t = 0)
theorem kept_at {a b : List Bd} {i : Nat} (h : i < a.length) (hno : inB a[i] b = false) : keptB a b = false := by
  unfold keptB
  rw [Bool.eq_false_iff]
  intro e
  rw [List.all_eq_true] at e
  have := e _ (List.getElem_mem h)
  unfold inB at hno
  rw [hno] at this; cases this
theorem kept_all {a b : List Bd} (h : ∀ i (hi : i < a.length), inB a[i] b = true) : keptB a b = true := by
  unfold keptB
  rw [List.all_eq_true]
  intro x hx
  obtain ⟨i, hi, rfl⟩ := List.getElem_of_mem hx
  exact h i hi
theorem in_step (y : Bd) (b : List Bd) (k : Nat) (h : k < b.length) : inB y (b.take (k + 1)) = (inB y (b.take k) || (decide (y.var = b[k].var) && decide (cmp y.t b[k].t = 0))) := by
  unfold inB
  rw [List.take_succ_eq_append_getElem h, List.any_append]
  simp
set_option maxRecDepth 100000 in
set_option maxHeartbeats 8000000 in
theorem okept (a b : List Bd) (va vb : Value) (w : World) (ha : BindsAt w va a) (hb : BindsAt w vb b) (hab : ∀ x ∈ a, x.t.bulk ≤ 1048576) (hbb : ∀ x ∈ b, x.t.bulk ≤ 1048576) :
    Calls Tryz.prog 36 #[va, vb] w fun e w' => e = .returned (.bool (keptB a b)) ∧ Below w.heap.size w w' := by
  obtain ⟨A, ca, rfl, hc1, hc2⟩ := ha.shape
  obtain ⟨B, cb, rfl, hc3, hc4⟩ := hb.shape
  obtain ⟨n, hn⟩ : ∃ n, a.length = n := ⟨_, rfl⟩
  obtain ⟨m, hm⟩ : ∃ m, b.length = m := ⟨_, rfl⟩
  have HN := Lib.hid hn; have HM := Lib.hid hm; have HA := Lib.hid ha; have HB := Lib.hid hb; have HAB := Lib.hid hab; have HBB := Lib.hid hbb
  have hno := fun i (h : i < a.length) => kept_at (b := b) h
  have hyes := kept_all (a := a) (b := b)
  obtain ⟨R, hR⟩ : ∃ R, keptB a b = R := ⟨_, rfl⟩
  rw [hR] at hno hyes ⊢
  have HNO := Lib.hid hno; have HYES := Lib.hid hyes
  rw [hn] at hc1 ⊢
  rw [hm] at hc3 ⊢
  have hnb : n ≤ 9223372036854775807 := by unfold maxLen at hc2; omega
  have hmb : m ≤ 9223372036854775807 := by unfold maxLen at hc4; omega
  clear ha hb hab hbb hn hm hno hyes hR
  go_enter Tryz.func36, Tryz.ntmps36
  go_wp2_with fail
  go_loopw [5] (fun iv wr => ∃ i : Nat, i ≤ n ∧ iv = .int .i64 i ∧ (∀ k (hk : k < i) (hl : k < a.length), inB a[k] b = true) ∧ Below w.heap.size w wr) (fun iv _ => n - (intOf iv).toNat)
  case atStart => exact ⟨0, Nat.zero_le _, rfl, fun k hk => absurd hk (Nat.not_lt_zero _), Below.refl _ _⟩
  case round =>
    obtain ⟨i, hi, rfl, hall, hbw⟩ := hrel
    obtain ⟨wo, rfl⟩ : ∃ wo : World, wo = wr := ⟨_, rfl⟩
    have HALL := Lib.hid hall; have HBW := Lib.hid hbw
    clear hall hbw
    by_cases hlt : i < n
    · have hil : i < a.length := by rw [HN.out]; exact hlt
      obtain ⟨y, hy⟩ : ∃ y, a[i] = y := ⟨_, rfl⟩
      obtain ⟨b1, o1, B1, c1, rfl, d0', d1', d2', d3', ht, hsz⟩ := HA.out.get hil
      clear hsz
      have hby := HAB.out _ (List.getElem_mem hil)
      rw [hy] at d0' d1' d2' d3' ht hby
      have HNOI := Lib.hid (fun (h : inB y b = false) => HNO.out i hil (by rw [hy]; exact h))
      have HYY := Lib.hid (fun (h : inB y b = true) => show ∀ k (hk : k < i + 1) (hl : k < a.length), inB a[k] b = true from fun k hk hl => by
        rcases Nat.lt_or_ge k i with g | g
        · exact HALL.out k g hl
        · obtain rfl : k = i := by omega
          rw [hy]; exact h)
      have HD := Lib.hid (show w.cell? ⟨b1, o1 + i * 4, none⟩ = some (.string y.var) ∧ w.cell? ⟨b1, o1 + i * 4 + 1, none⟩ = some (.int .i64 y.t.kind) ∧ w.cell? ⟨b1, o1 + i * 4 + 2, none⟩ = some (.string y.t.name) ∧ w.cell? ⟨b1, o1 + i * 4 + 3, none⟩ = some (.slice B1 y.t.kids.length c1) from ⟨d0', d1', d2', d3'⟩)
      have HT := Lib.hid ht; have HBY := Lib.hid hby; have HLT := Lib.hid hlt
      have hi1 : (i : Int) < (n : Int) := by omega
      have hi0 : (0 : Int) ≤ (i : Int) := by omega
      clear hy ht hby d0' d1' d2' d3' hil hlt hi
      go_wp2_with fail
      go_loopw [7, 6] (fun kv tv wr => ∃ k : Nat, k ≤ m ∧ kv = .int .i64 k ∧ tv = .bool (inB y (b.take k)) ∧ Below wo.heap.size wo wr) (fun kv _ _ => m - (intOf kv).toNat)
      case atStart => exact ⟨0, Nat.zero_le _, rfl, by rw [List.take_zero]; rfl, Below.refl _ _⟩
      case round =>
        obtain ⟨k, hk, rfl, rfl, hbk⟩ := hrel
        by_cases hkm : k < m
        · have hkl : k < b.length := by rw [HM.out]; exact hkm
          obtain ⟨z, hz⟩ : ∃ z, b[k] = z := ⟨_, rfl⟩
          obtain ⟨b2, o2, B2, c2, rfl, e0', e1', e2', e3', ht2, hsz2⟩ := HB.out.get hkl
          clear hsz2
          have hbz := HBB.out _ (List.getElem_mem hkl)
          have hstep := in_step y b k hkl
          rw [hz] at e0' e1' e2' e3' ht2 hbz hstep
          have hw0 := HBW.out.trans (hbk.mono HBW.out.size)
          obtain ⟨d0', d1', d2', d3'⟩ := HD.out
          have d0 := cell_later hw0 d0'; have d1 := cell_later hw0 d1'; have d2 := cell_later hw0 d2'; have d3 := cell_later hw0 d3'
          have e0 := cell_later hw0 e0'; have e1 := cell_later hw0 e1'; have e2 := cell_later hw0 e2'; have e3 := cell_later hw0 e3'
          have HT1 := Lib.hid (HT.out.later hw0); have HT2 := Lib.hid (ht2.later hw0)
          have hk1 : (k : Int) < (m : Int) := by omega
          have hk0 : (0 : Int) ≤ (k : Int) := by omega
          have HS := Lib.hid (fun v v' W h1 h2 => rsame y.t z.t v v' W h1 h2 HBY.out hbz)
          obtain ⟨q0, hq0⟩ : ∃ q, inB y (b.take k) = q := ⟨_, rfl⟩
          obtain ⟨q2, hq2⟩ : ∃ q, decide (y.t.cmp z.t = 0) = q := ⟨_, rfl⟩
          rw [hq0, hq2] at hstep
          rw [hq2] at HS
          rw [hq0]
          have HSTEP := Lib.hid hstep; have HBK := Lib.hid hbk; have HKM := Lib.hid hkm
          clear hstep hbk hkm hz ht2 hbz hw0 d0' d1' d2' d3' e0' e1' e2' e3' hkl hk hq0 hq2
          go_upto_region 8 with fail
          cases q0 with
          | true =>
            (refine wp_region_held_drew (S := (fun Wq => Wq.cell? ⟨b1, o1 + i * 4, none⟩ = some (.string y.var) ∧ Wq.cell? ⟨b1, o1 + i * 4 + 1, none⟩ = some (.int .i64 y.t.kind) ∧ Wq.cell? ⟨b1, o1 + i * 4 + 2, none⟩ = some (.string y.t.name) ∧ Wq.cell? ⟨b1, o1 + i * 4 + 3, none⟩ = some (.slice B1 y.t.kids.length c1) ∧ Wq.cell? ⟨b2, o2 + k * 4, none⟩ = some (.string z.var) ∧ Wq.cell? ⟨b2, o2 + k * 4 + 1, none⟩ = some (.int .i64 z.t.kind) ∧ Wq.cell? ⟨b2, o2 + k * 4 + 2, none⟩ = some (.string z.t.name) ∧ Wq.cell? ⟨b2, o2 + k * 4 + 3, none⟩ = some (.slice B2 z.t.kids.length c2) ∧ Below wr.heap.size wr Wq)) (by kernel_rfl) (show _ ∧ _ ∧ _ ∧ _ ∧ _ ∧ _ ∧ _ ∧ _ ∧ _ from ⟨d0, d1, d2, d3, e0, e1, e2, e3, (Below.refl _ wr).drew⟩) (fun hHeld => ?_))
            (refine tkJ 0 _ (h := ?_))
            (refine tkJ 1 _ (h := ?_))
            (first | (refine tkJ 2 _ (h := ?_)) | (refine tkM 2 (h := ?_)))
            (first | (refine tkJ 3 _ (h := ?_)) | (refine tkM 3 (h := ?_)))
            (first | (refine tkJ 4 _ (h := ?_)) | (refine tkM 4 (h := ?_)))
            (first | (refine tkJ 5 _ (h := ?_)) | (refine tkM 5 (h := ?_)))
            (first | (refine tkJ 6 _ (h := ?_)) | (refine tkM 6 (h := ?_)))
            (first | (refine tkJ 7 _ (h := ?_)) | (refine tkM 7 (h := ?_)))
            (first | (refine tkJ 8 _ (h := ?_)) | (refine tkM 8 (h := ?_)))
            (first | (refine tkJ 9 _ (h := ?_)) | (refine tkM 9 (h := ?_)))
            (first | (refine tkJ 10 _ (h := ?_)) | (refine tkM 10 (h := ?_)))
            (first | (refine tkJ 11 _ (h := ?_)) | (refine tkM 11 (h := ?_)))
            (first | (refine tkJ 12 _ (h := ?_)) | (refine tkM 12 (h := ?_)))
            (first | (refine tkJ 13 _ (h := ?_)) | (refine tkM 13 (h := ?_)))
            (first | (refine tkJ 14 _ (h := ?_)) | (refine tkM 14 (h := ?_)))
            (first | (refine tkJ 15 _ (h := ?_)) | (refine tkM 15 (h := ?_)))
            (first | (refine tkJ 16 _ (h := ?_)) | (refine tkM 16 (h := ?_)))
            (first | (refine tkJ 17 _ (h := ?_)) | (refine tkM 17 (h := ?_)))
            (first | (refine tkJ 18 _ (h := ?_)) | (refine tkM 18 (h := ?_)))
            (first | (refine tkJ 19 _ (h := ?_)) | (refine tkM 19 (h := ?_)))
            (first | (refine tkJ 20 _ (h := ?_)) | (refine tkM 20 (h := ?_)))
            (first | (refine tkJ 21 _ (h := ?_)) | (refine tkM 21 (h := ?_)))
            (first | (refine tkJ 22 _ (h := ?_)) | (refine tkM 22 (h := ?_)))
            (first | (refine tkJ 23 _ (h := ?_)) | (refine tkM 23 (h := ?_)))
            (first | (refine tkJ 24 _ (h := ?_)) | (refine tkM 24 (h := ?_)))
            (first | (refine tkJ 25 _ (h := ?_)) | (refine tkM 25 (h := ?_)))
            (refine tkJ 26 _ (h := ?_))
            (refine tkJ 27 _ (h := ?_))
            (refine wpAnyH_done (by kernel_rfl) ?_ _)
            have HB4 := Lib.hid (HBK.out.trans (hHeld.2.2.2.2.2.2.2.2.mono HBK.out.size))
            clear hHeld d0 d1 d2 d3 e0 e1 e2 e3
            go_wp2_with fail
            go_roundw
            case rel => exact ⟨k + 1, HKM.out, by go_num, by rw [HSTEP.out]; rfl, HB4.out⟩
            case measure => have := HKM.out; simp [intOf]; omega
          | false =>
            by_cases hvv : y.var = z.var
            · have HV2 := Lib.hid hvv
              rw [hvv] at d0
              have hss : (z.var.toList == z.var.toList) = true := by simp
              (refine wp_region_held_drew (S := (fun Wq => Wq.cell? ⟨b1, o1 + i * 4, none⟩ = some (.string z.var) ∧ Wq.cell? ⟨b1, o1 + i * 4 + 1, none⟩ = some (.int .i64 y.t.kind) ∧ Wq.cell? ⟨b1, o1 + i * 4 + 2, none⟩ = some (.string y.t.name) ∧ Wq.cell? ⟨b1, o1 + i * 4 + 3, none⟩ = some (.slice B1 y.t.kids.length c1) ∧ Wq.cell? ⟨b2, o2 + k * 4, none⟩ = some (.string z.var) ∧ Wq.cell? ⟨b2, o2 + k * 4 + 1, none⟩ = some (.int .i64 z.t.kind) ∧ Wq.cell? ⟨b2, o2 + k * 4 + 2, none⟩ = some (.string z.t.name) ∧ Wq.cell? ⟨b2, o2 + k * 4 + 3, none⟩ = some (.slice B2 z.t.kids.length c2) ∧ Below wr.heap.size wr Wq)) (by kernel_rfl) (show _ ∧ _ ∧ _ ∧ _ ∧ _ ∧ _ ∧ _ ∧ _ ∧ _ from ⟨d0, d1, d2, d3, e0, e1, e2, e3, (Below.refl _ wr).drew⟩) (fun hHeld => ?_))
              (refine tkJ 0 _ (h := ?_))
              (refine tkJ 1 _ (h := ?_))
              (first | (refine tkJ 2 _ (h := ?_)) | (refine tkM 2 (h := ?_)))
              (first | (refine tkJ 3 _ (h := ?_)) | (refine tkM 3 (h := ?_)))
              (first | (refine tkJ 4 _ (h := ?_)) | (refine tkM 4 (h := ?_)))
              (first | (refine tkJ 5 _ (h := ?_)) | (refine tkM 5 (h := ?_)))
              (first | (refine tkJ 6 _ (h := ?_)) | (refine tkM 6 (h := ?_)))
              (first | (refine tkJ 7 _ (h := ?_)) | (refine tkM 7 (h := ?_)))
              (first | (refine tkJ 8 _ (h := ?_)) | (refine tkM 8 (h := ?_)))
              (first | (refine tkJ 9 _ (h := ?_)) | (refine tkM 9 (h := ?_)))
              (first | (refine tkJ 10 _ (h := ?_)) | (refine tkM 10 (h := ?_)))
              (first | (refine tkJ 11 _ (h := ?_)) | (refine tkM 11 (h := ?_)))
              (first | (refine tkJ 12 _ (h := ?_)) | (refine tkM 12 (h := ?_)))
              (first | (refine tkJ 13 _ (h := ?_)) | (refine tkM 13 (h := ?_)))
              (first | (refine tkJ 14 _ (h := ?_)) | (refine tkM 14 (h := ?_)))
              (first | (refine tkJ 15 _ (h := ?_)) | (refine tkM 15 (h := ?_)))
              (first | (refine tkJ 16 _ (h := ?_)) | (refine tkM 16 (h := ?_)))
              (first | (refine tkJ 17 _ (h := ?_)) | (refine tkM 17 (h := ?_)))
              (first | (refine tkJ 18 _ (h := ?_)) | (refine tkM 18 (h := ?_)))
              (first | (refine tkJ 19 _ (h := ?_)) | (refine tkM 19 (h := ?_)))
              (first | (refine tkJ 20 _ (h := ?_)) | (refine tkM 20 (h := ?_)))
              (first | (refine tkJ 21 _ (h := ?_)) | (refine tkM 21 (h := ?_)))
              (first | (refine tkJ 22 _ (h := ?_)) | (refine tkM 22 (h := ?_)))
              (first | (refine tkJ 23 _ (h := ?_)) | (refine tkM 23 (h := ?_)))
              (refine rdJ 24 (h := fun K hK => ?_); go_simp; go_at_call 25; refine (HS.out _ _ _ (HT1.out.later hHeld.2.2.2.2.2.2.2.2) (HT2.out.later hHeld.2.2.2.2.2.2.2.2)).mono ?_; rintro e wz ⟨rfl, hb4⟩; refine shK hK (held8 hHeld hb4) (h := fun hHeld => ?_); clear hK K)
              (first | (refine tkJ 25 _ (h := ?_)) | (refine tkM 25 (h := ?_)))
              (refine tkJ 26 _ (h := ?_))
              (refine tkJ 27 _ (h := ?_))
              (refine wpAnyH_done (by kernel_rfl) ?_ _)
              have HB4 := Lib.hid (HBK.out.trans (hHeld.2.2.2.2.2.2.2.2.mono HBK.out.size))
              clear hHeld d0 d1 d2 d3 e0 e1 e2 e3
              go_wp2_with fail
              go_roundw
              case rel => exact ⟨k + 1, HKM.out, by go_num, by rw [HSTEP.out, decide_eq_true HV2.out]; simp, HB4.out⟩
              case measure => have := HKM.out; simp [intOf]; omega
            · have hsn := str_ne hvv
              have HV2 := Lib.hid hvv
              (refine wp_region_held_drew (S := (fun Wq => Wq.cell? ⟨b1, o1 + i * 4, none⟩ = some (.string y.var) ∧ Wq.cell? ⟨b1, o1 + i * 4 + 1, none⟩ = some (.int .i64 y.t.kind) ∧ Wq.cell? ⟨b1, o1 + i * 4 + 2, none⟩ = some (.string y.t.name) ∧ Wq.cell? ⟨b1, o1 + i * 4 + 3, none⟩ = some (.slice B1 y.t.kids.length c1) ∧ Wq.cell? ⟨b2, o2 + k * 4, none⟩ = some (.string z.var) ∧ Wq.cell? ⟨b2, o2 + k * 4 + 1, none⟩ = some (.int .i64 z.t.kind) ∧ Wq.cell? ⟨b2, o2 + k * 4 + 2, none⟩ = some (.string z.t.name) ∧ Wq.cell? ⟨b2, o2 + k * 4 + 3, none⟩ = some (.slice B2 z.t.kids.length c2) ∧ Below wr.heap.size wr Wq)) (by kernel_rfl) (show _ ∧ _ ∧ _ ∧ _ ∧ _ ∧ _ ∧ _ ∧ _ ∧ _ from ⟨d0, d1, d2, d3, e0, e1, e2, e3, (Below.refl _ wr).drew⟩) (fun hHeld => ?_))
              (refine tkJ 0 _ (h := ?_))
              (refine tkJ 1 _ (h := ?_))
              (first | (refine tkJ 2 _ (h := ?_)) | (refine tkM 2 (h := ?_)))
              (first | (refine tkJ 3 _ (h := ?_)) | (refine tkM 3 (h := ?_)))
              (first | (refine tkJ 4 _ (h := ?_)) | (refine tkM 4 (h := ?_)))
              (first | (refine tkJ 5 _ (h := ?_)) | (refine tkM 5 (h := ?_)))
              (first | (refine tkJ 6 _ (h := ?_)) | (refine tkM 6 (h := ?_)))
              (first | (refine tkJ 7 _ (h := ?_)) | (refine tkM 7 (h := ?_)))
              (first | (refine tkJ 8 _ (h := ?_)) | (refine tkM 8 (h := ?_)))
              (first | (refine tkJ 9 _ (h := ?_)) | (refine tkM 9 (h := ?_)))
              (first | (refine tkJ 10 _ (h := ?_)) | (refine tkM 10 (h := ?_)))
              (first | (refine tkJ 11 _ (h := ?_)) | (refine tkM 11 (h := ?_)))
              (first | (refine tkJ 12 _ (h := ?_)) | (refine tkM 12 (h := ?_)))
              (first | (refine tkJ 13 _ (h := ?_)) | (refine tkM 13 (h := ?_)))
              (first | (refine tkJ 14 _ (h := ?_)) | (refine tkM 14 (h := ?_)))
              (first | (refine tkJ 15 _ (h := ?_)) | (refine tkM 15 (h := ?_)))
              (first | (refine tkJ 16 _ (h := ?_)) | (refine tkM 16 (h := ?_)))
              (first | (refine tkJ 17 _ (h := ?_)) | (refine tkM 17 (h := ?_)))
              (first | (refine tkJ 18 _ (h := ?_)) | (refine tkM 18 (h := ?_)))
              (first | (refine tkJ 19 _ (h := ?_)) | (refine tkM 19 (h := ?_)))
              (first | (refine tkJ 20 _ (h := ?_)) | (refine tkM 20 (h := ?_)))
              (first | (refine tkJ 21 _ (h := ?_)) | (refine tkM 21 (h := ?_)))
              (first | (refine tkJ 22 _ (h := ?_)) | (refine tkM 22 (h := ?_)))
              (first | (refine tkJ 23 _ (h := ?_)) | (refine tkM 23 (h := ?_)))
              (first | (refine tkJ 24 _ (h := ?_)) | (refine tkM 24 (h := ?_)))
              (first | (refine tkJ 25 _ (h := ?_)) | (refine tkM 25 (h := ?_)))
              (refine tkJ 26 _ (h := ?_))
              (refine tkJ 27 _ (h := ?_))
              (refine wpAnyH_done (by kernel_rfl) ?_ _)
              have HB4 := Lib.hid (HBK.out.trans (hHeld.2.2.2.2.2.2.2.2.mono HBK.out.size))
              clear hHeld d0 d1 d2 d3 e0 e1 e2 e3
              go_wp2_with fail
              go_roundw
              case rel => exact ⟨k + 1, HKM.out, by go_num, by rw [HSTEP.out, decide_eq_false HV2.out]; rfl, HB4.out⟩
              case measure => have := HKM.out; simp [intOf]; omega
        · obtain rfl : k = m := by omega
          rw [List.take_of_length_le (by rw [HM.out]; exact Nat.le_refl _)]
          have hk1 : ¬ (k : Int) < (k : Int) := by omega
          have HBK := Lib.hid (HBW.out.trans (hbk.mono HBW.out.size))
          obtain ⟨q, hq⟩ : ∃ q, inB y b = q := ⟨_, rfl⟩
          rw [hq] at HNOI HYY ⊢
          clear hbk hq
          cases q with
          | false =>
            obtain rfl : R = false := HNOI.out rfl
            go_wp2_with fail
            go_ret
            exact ⟨rfl, HBK.out⟩
          | true =>
            have HALL2 := Lib.hid (HYY.out rfl)
            go_wp2_with fail
            go_roundw
            case rel => exact ⟨i + 1, HLT.out, by go_num, HALL2.out, HBK.out⟩
            case measure => have := HLT.out; simp [intOf]; omega
    · obtain rfl : i = n := by omega
      have hi1 : ¬ (i : Int) < (i : Int) := by omega
      obtain rfl : R = true := HYES.out fun k hk => HALL.out k (by rw [← HN.out]; exact hk) hk
      go_wp2_with fail
      go_ret
      exact ⟨rfl, HBW.out⟩
end Go.Proofs.YtihbmgkbipeakaaGreat

namespace Go.Proofs.YtihbmgkbipeakaaGreat
open Go.RowKit T

attribute [local go_sem ↓] Go.wp_at_zero Go.wp_at_succ

theorem made_use {D : Nat} (hD : D ≤ 4) {t : T} (h : T.MadeN 0 D t) : t.use = true := by
  have hv := h.1.valid hD
  have hn : t.hasVar = false := by
    cases e : t.hasVar with
    | false => rfl
    | true => have := h.1.2.2.2.2 e; omega
  unfold T.use T.ground
  rw [hv, hn, (T.isN_iff t).2 ⟨hv, h.2⟩]; rfl
theorem maden_atom {k : Int} {s : ByteArray} (h : T.made0 0 k s = true) : T.MadeN 0 1 (.mk k s []) := T.maden_of_atom h 1
/-- A further binding behind the others. -/
theorem proper_push {L : List Bd} {s : ByteArray} {t : T} (h : properB L = true) (hs : isName s = true) (ht : t.use = true) (hl : ∀ x ∈ L, T.less x.var s = true) : properB (L ++ [⟨s, t⟩]) = true := by
  refine proper_yes fun i hi => ?_
  rcases Nat.lt_or_ge i L.length with g | g
  · rw [List.getElem_append_left g]
    have h1 := properB_at h g
    unfold properAt at h1 ⊢
    rw [List.getElem?_append_left (by omega)]
    exact h1
  · obtain rfl : i = L.length := by simp at hi; omega
    have e : (L ++ [(⟨s, t⟩ : Bd)])[L.length]'hi = ⟨s, t⟩ := by simp
    rw [e]
    unfold properAt
    dsimp only
    rw [hs, ht]
    rcases Nat.eq_zero_or_pos L.length with h0 | h0
    · rw [h0]; rfl
    · rw [List.getElem?_append_left (by omega), List.getElem?_eq_getElem (by omega)]
      have := hl _ (List.getElem_mem (show L.length - 1 < L.length by omega))
      simp [this]
def nmB (i : Nat) : ByteArray := if i = 0 then ⟨#[120]⟩ else if i = 1 then ⟨#[121]⟩ else ⟨#[122]⟩
theorem nm_less {i j : Nat} (h : i < j) (hj : j ≤ 2) : T.less (nmB i) (nmB j) = true := by
  rcases (show (i = 0 ∧ j = 1) ∨ (i = 0 ∧ j = 2) ∨ (i = 1 ∧ j = 2) by omega) with ⟨rfl, rfl⟩ | ⟨rfl, rfl⟩ | ⟨rfl, rfl⟩ <;> kernel_rfl
theorem nm_name (i : Nat) : isName (nmB i) = true := by
  unfold nmB
  split
  · kernel_rfl
  · split <;> kernel_rfl
theorem nm_size (i : Nat) : (nmB i).size ≤ maxLen := by
  unfold nmB
  split
  · decide
  · split <;> decide
/-- Bindings that values makes: of the names ahead of place j. -/
def ValsJ (j : Nat) (L : List Bd) : Prop := properB L = true ∧ L.length ≤ j ∧ ∀ x ∈ L, x.t.bulk ≤ 240 ∧ ∃ i < j, x.var = nmB i
theorem ValsJ.nil : ValsJ 0 [] := ⟨rfl, Nat.le_refl _, fun _ hx => (List.not_mem_nil hx).elim⟩
theorem ValsJ.skip {j : Nat} {L : List Bd} (h : ValsJ j L) : ValsJ (j + 1) L :=
  ⟨h.1, Nat.le_succ_of_le h.2.1, fun y hx => by obtain ⟨h1, i, h2, h3⟩ := h.2.2 y hx; exact ⟨h1, i, by omega, h3⟩⟩
theorem ValsJ.push {j : Nat} {L : List Bd} {t : T} {D : Nat} (h : ValsJ j L) (hj : j ≤ 2) (hD : D ≤ 4) (ht : T.MadeN 0 D t) : ValsJ (j + 1) (L ++ [⟨nmB j, t⟩]) := by
  refine ⟨proper_push h.1 (nm_name j) (made_use hD ht) fun x hx => ?_, by have := h.2.1; simp; omega, fun x hx => ?_⟩
  · obtain ⟨_, i, h2, h3⟩ := h.2.2 x hx
    rw [h3]; exact nm_less h2 hj
  · rcases List.mem_append.1 hx with hx | hx
    · obtain ⟨h1, i, h2, h3⟩ := h.2.2 x hx
      exact ⟨h1, i, by omega, h3⟩
    · rw [List.mem_singleton] at hx; subst hx
      exact ⟨ht.1.bulk hD, j, by omega, rfl⟩
/-- The array of the names. -/
def NmAt (w : World) (g : Nat) : Prop := w.heap[g]? = some (.cells #[.string ⟨#[120]⟩, .string ⟨#[121]⟩, .string ⟨#[122]⟩] 100)
theorem NmAt.cell {w : World} {g : Nat} (h : NmAt w g) {i : Nat} (hi : i ≤ 2) : w.cell? ⟨g, i, none⟩ = some (.string (nmB i)) := by
  unfold NmAt at h
  unfold World.cell?
  rw [h]
  rcases (show i = 0 ∨ i = 1 ∨ i = 2 by omega) with rfl | rfl | rfl <;> rfl
/-- Midway in values. -/
structure ValAt (B g ga : Nat) (w : World) (L : List Bd) (v : Value) (wr : World) : Prop where
  row : BRow (w.heap.size + 1) wr v L
  nm : NmAt wr ga
  dice : DiceAt B g wr
  grown : w.grownBy wr (some g)
  ga : ga = w.heap.size
  lt : g < w.heap.size ∧ w.heap.size + 1 ≤ wr.heap.size
theorem ValAt.dices {B g ga : Nat} {w wr w' : World} {L : List Bd} {v : Value} (h : ValAt B g ga w L v wr) (hd : DiceAt B g w') (hg : wr.grownBy w' (some g)) : ValAt B g ga w L v w' := by
  have hl := h.lt; have hga := h.ga
  have hs := hg.size
  refine ⟨h.row.keep fun b hb hl' => hg.block b hl' (fun e => by have e' := Option.some.inj e; omega), (hg.block ga (by omega) (fun e => by have e' := Option.some.inj e; omega)).trans h.nm, hd, grownBy_trans h.grown hg, hga, hl.1, by omega⟩
theorem DiceAt.keepV {B g : Nat} {w w' : World} (h : DiceAt B g w) (hk : ∀ b, b ≤ g → b < w.heap.size → w'.heap[b]? = w.heap[b]?) : DiceAt B g w' := by
  have hgl := h.lt
  obtain ⟨h0, A, n, c, k, h1, h2, h3, h3', h4⟩ := h
  refine ⟨h0, A, n, c, k, (hk g (Nat.le_refl _) hgl).trans h1, h2, h3, h3', ?_⟩
  rcases h4 with h4 | ⟨b, off, hbB, e, hc⟩
  · exact .inl h4
  · refine .inr ⟨b, off, hbB, e, fun j hj => ?_⟩
    obtain ⟨z, g1, g2⟩ := hc j hj
    refine ⟨z, ?_, g2⟩
    rw [← g1]
    exact World.cell?_of_block (hk b (by omega) (by omega))
/-- Behind an append to the row. -/
theorem ValAt.push {B g ga : Nat} {w w2 w6 w4 : World} {L : List Bd} {n c c3 gn cap : Nat} {Av A3 : Option Addr} {xs : List Value} {s : ByteArray} {t : T} {o : Obj} (h : ValAt B g ga w L (.slice Av n c) w2) (hn : n = L.length)
    (hown0 : w2.ownsRow (w.heap.size + 1) 66 4 (.slice Av n c) n xs) (hc : BCI (but (w.heap.size + 1) (Value.slice Av n c).ownBlock) w2 xs L) (hs : s.size ≤ maxLen) (hg26 : w2.grownBy w6 (some g)) (hd : DiceAt B g w6)
    (ht : TermIn (from_ w2.heap.size) w6 (.agg #[.int .i64 t.kind, .string t.name, .slice A3 t.kids.length c3]) t)
    (hown : w4.ownsRow (w.heap.size + 1) 66 4 (.slice (some ⟨gn, 0, none⟩) (n + 1) cap) (n + 1) (xs ++ [.string s, .int .i64 t.kind, .string t.name, .slice A3 t.kids.length c3])) (hg : (w6.alloc o).grownBy w4 (Value.slice Av n c).ownBlock) (hat : (Value.slice Av n c).ownBlock = some gn ∨ gn = (w6.alloc o).heap.size) :
    ValAt B g ga w (L ++ [⟨s, t⟩]) (.slice (some ⟨gn, 0, none⟩) (n + 1) cap) w4 := by
  have hl := h.lt; have hga := h.ga
  have hs2 := hg26.size; have hsa := size_alloc1 w6 o; have hs4 := hg.size
  have hlt := hown0.lt
  have key : ∀ b, b < w.heap.size + 1 → w4.heap[b]? = w6.heap[b]? := fun b hb => (hg.block b (by omega) (fun e => by have := (hlt b e.symm).1; omega)).trans (Below.heap_alloc w6 o b (by omega))
  refine ⟨BRow.push hown0 hn hc hs (fun b hb hl' => hg26.block b hl' (fun e => by have e' := Option.some.inj e; omega)) hs2 hl.2 ht hown hg hat, ?_, ?_, ?_, hga, hl.1, by omega⟩
  · exact (key ga (by omega)).trans ((hg26.block ga (by omega) (fun e => by have e' := Option.some.inj e; omega)).trans h.nm)
  · exact hd.keepV fun b hb _ => key b (by omega)
  · have h6 := grownBy_trans h.grown hg26
    exact ⟨hg.os.trans h6.os, hg.tape.trans h6.tape, hg.output.trans h6.output, by omega, fun k hk hne => (key k (by omega)).trans (h6.block k hk hne)⟩
set_option maxRecDepth 100000 in
set_option maxHeartbeats 8000000 in
theorem ovalues (B g : Nat) (w : World) (hd : DiceAt B g w) :
    Calls Tryz.prog 32 #[.pointer (some ⟨g, 0, none⟩)] w fun e w' => ∃ v L, e = .returned v ∧ BRow (w.heap.size + 1) w' v L ∧ ValsJ 3 L ∧ DiceAt B g w' ∧ w.grownBy w' (some g) := by
  obtain ⟨i0, hi0, hz0, hz1, hz2⟩ := info_parts Tryz.infoB
  have hgl := hd.lt
  have hw := below_alloc1 w (.cells #[.string ⟨#[120]⟩, .string ⟨#[121]⟩, .string ⟨#[122]⟩] 100)
  have hst : ValAt B g w.heap.size w [] (.slice none 0 0) (w.alloc (.cells #[.string ⟨#[120]⟩, .string ⟨#[121]⟩, .string ⟨#[122]⟩] 100)) :=
    ⟨BRow.nil _ _, heap_alloc_new w _, hd.below hw hgl, grownBy_of_below _ hw, rfl, hgl, by rw [size_alloc1]; exact Nat.le_refl _⟩
  have HST := Lib.hid hst
  clear hd hgl hw hst
  go_enter Tryz.func32, Tryz.ntmps32
  go_upto_region 3 with fail
  generalize w.alloc (.cells #[.string ⟨#[120]⟩, .string ⟨#[121]⟩, .string ⟨#[122]⟩] 100) = w1 at HST ⊢
  generalize hga : w.heap.size = ga at HST ⊢
  have HGA := Lib.hid hga
  clear hga
  go_wp2_with fail
  go_loopw [5, 3] (fun iv v wr => ∃ (j : Nat) (L : List Bd), j ≤ 3 ∧ iv = .int .i64 j ∧ ValsJ j L ∧ ValAt B g ga w L v wr) (fun iv _ _ => 3 - (intOf iv).toNat)
  case atStart => exact ⟨0, [], by omega, rfl, ValsJ.nil, HST.out⟩
  case round =>
    obtain ⟨j, L, hj, rfl, hv, ha⟩ := hrel
    by_cases hlt : j < 3
    · have hi : (j : Int) < 3 := by omega
      have HV := Lib.hid hv; have HA := Lib.hid ha; have HLT := Lib.hid hlt
      clear hv ha hlt hj
      go_wp2_with fail
      refine (made_next B g 2 _ HA.out.dice (by omega) (by omega)).mono ?_; rintro e w2 ⟨q, hq0, hq1, rfl, hd2, hg2⟩
      have HA2 := Lib.hid (HA.out.dices hd2 hg2)
      clear hd2 hg2 HA
      by_cases h1 : q = 1
      · subst h1
        obtain ⟨Av, cv, xs, rfl, hown, hbc⟩ := HA2.out.row.cells
        obtain ⟨S, hS⟩ : ∃ S, nmB j = S := ⟨_, rfl⟩
        obtain ⟨n, hn⟩ : ∃ n, L.length = n := ⟨_, rfl⟩
        have hnl : n ≤ 3 := by have := HV.out.2.1; have := HLT.out; omega
        have hj2 : j ≤ 2 := by have := HLT.out; omega
        rw [hn] at hown hbc HA2 ⊢
        have HNC := Lib.hid (fun (W : World) (h : NmAt W ga) => show W.cell? ⟨ga, j, none⟩ = some (.string S) from by rw [← hS]; exact h.cell hj2)
        have n2 := HNC.out w2 HA2.out.nm
        have hj0 : (0 : Int) ≤ (j : Int) := by omega
        have HOW := Lib.hid hown; have HBC := Lib.hid hbc; have HN := Lib.hid hn; have HS := Lib.hid hS
        have HSS := Lib.hid (show S.size ≤ maxLen by rw [← hS]; exact nm_size j)
        have HA2D := Lib.hid (show ValAt B g ga w L (.slice Av n cv) w2.drew from ⟨HA2.out.row.keep fun b _ _ => rfl, HA2.out.nm, HA2.out.dice, ⟨HA2.out.grown.os, HA2.out.grown.tape, HA2.out.grown.output, HA2.out.grown.size, HA2.out.grown.block⟩, HA2.out.ga, HA2.out.lt⟩)
        have HOWD := Lib.hid (show w2.drew.ownsRow (w.heap.size + 1) 66 4 (.slice Av n cv) n xs from hown.drew)
        have HBCD := Lib.hid (show BCI (but (w.heap.size + 1) (Value.slice Av n cv).ownBlock) w2.drew xs L from hbc.keep fun b hb _ => ⟨hb, rfl⟩)
        clear hown hbc hn hS
        go_upto_region 7 with fail
        refine wp_region_any (by kernel_rfl) ?_
        (try (change wpAny _ _ _ _ _ _ _ (World.drew _)))
        (refine wpAny_take (i := 0) (v := ?_) (by simp only [List.getElem?_toArray, List.getElem?_cons_zero]; rfl) (by kernel_rfl) (by kernel_rfl) (by kernel_rfl) (by exact fun _ _ _ h => h) (Or.inl ⟨by rfl, ?_⟩) ?_; rotate_left 1; · (intro w; go_simp; (try with_reducible rfl)))
        (refine wpAny_take (i := 1) (v := ?_) (by simp only [List.getElem?_toArray, List.getElem?_cons_succ, List.getElem?_cons_zero]; rfl) (by kernel_rfl) (by kernel_rfl) (by kernel_rfl) (by exact fun _ _ _ h => h) (Or.inl ⟨by rfl, ?_⟩) ?_; rotate_left 1; · (intro w; go_simp; (try with_reducible rfl)))
        (refine wpAny_take (i := 2) (v := ?_) (by simp only [List.getElem?_toArray, List.getElem?_cons_succ, List.getElem?_cons_zero]; rfl) (by kernel_rfl) (by kernel_rfl) (by kernel_rfl) (by exact fun _ _ _ h => h) (Or.inl ⟨by rfl, ?_⟩) ?_; rotate_left 1; · (intro w; go_simp; (try with_reducible rfl)))
        (refine wpAny_take (i := 4) (v := ?_) (by simp only [List.getElem?_toArray, List.getElem?_cons_succ, List.getElem?_cons_zero]; rfl) (by kernel_rfl) (by kernel_rfl) (by kernel_rfl) (by exact fun _ _ _ h => h) (Or.inl ⟨by rfl, ?_⟩) ?_; rotate_left 1; · (intro w; go_simp; (try with_reducible rfl)))
        (refine wpAny_take (i := 5) (v := ?_) (by simp only [List.getElem?_toArray, List.getElem?_cons_succ, List.getElem?_cons_zero]; rfl) (by kernel_rfl) (by kernel_rfl) (by kernel_rfl) (by exact fun _ _ _ h => h) (Or.inl ⟨by rfl, ?_⟩) ?_; rotate_left 1; · (intro w; go_simp; (try with_reducible rfl)))
        refine wpAny_ready (rs := [3, 6]) (by kernel_rfl) (by simp) ?_
        refine AllReady.cons (by simp only [List.getElem?_toArray, List.getElem?_cons_succ, List.getElem?_cons_zero]; rfl) (fun K hK => ?_) ?_
        · go_simp
          (first | (refine hK _ _ ?_; clear hK K) | skip)
          refine wpAny_ready (rs := [6]) (by kernel_rfl) (by simp) ?_
          refine AllReady.cons (by simp only [List.getElem?_toArray, List.getElem?_cons_succ, List.getElem?_cons_zero]; rfl) (fun K hK => ?_) ?_
          · (go_simp; go_at_call 38; refine (made_next B g 2 _ HA2D.out.dice (by omega) (by omega)).mono ?_; rintro e w5 ⟨q, hq0, hq1, rfl, hd5, hg5⟩; have HA5 := Lib.hid (HA2D.out.dices hd5 hg5); have n5 := HNC.out w5 HA5.out.nm; have HG5 := Lib.hid hg5; clear hd5 hg5; obtain ⟨D, hD, hD1, hD2⟩ : ∃ D : Nat, 1 + q = (D : Int) ∧ 1 ≤ D ∧ D ≤ 2 := ⟨(1 + q).toNat, by omega, by omega, by omega⟩; have hDw : IntKind.i64.wrap (D : Int) = (D : Int) := IntWalk.i64_in _ (by omega))
            (first | (refine hK _ _ ?_; clear hK K) | skip)
            (refine wpAny_take (i := 7) (v := ?_) (by simp only [List.getElem?_toArray, List.getElem?_cons_succ, List.getElem?_cons_zero]; rfl) (by kernel_rfl) (by kernel_rfl) (by kernel_rfl) (by exact fun _ _ _ h => h) (Or.inl ⟨by rfl, ?_⟩) ?_; rotate_left 1; · (intro w; go_simp; (try with_reducible rfl)))
            refine wpAny_ready (rs := [8]) (by kernel_rfl) (by simp) ?_
            refine AllReady.cons (by simp only [List.getElem?_toArray, List.getElem?_cons_succ, List.getElem?_cons_zero]; rfl) (fun K hK => ?_) ?_
            · (go_simp; go_at_call 17; refine (made_term 0 D hD1 (by omega) B g _ HA5.out.dice).mono ?_; rintro e w6 ⟨t6, A6, c6, hmd, rfl, hti, hd6, hg6⟩; have n6 := HNC.out w6 (HA5.out.dices hd6 hg6).nm; have HMD := Lib.hid hmd; have HD6 := Lib.hid hd6; have HG6 := Lib.hid (grownBy_trans HG5.out hg6); have HTI := Lib.hid (show TermIn (from_ w2.drew.heap.size) w6 _ t6 from hti.keep fun b hb _ => ⟨decide_eq_true (Nat.le_trans HG5.out.size (of_decide_eq_true hb)), rfl⟩); have HOWN3 := Lib.hid ((own_keepS HOWD.out fun b e hl => HG6.out.block b hl (fun e' => by have e'' := Option.some.inj e'; have := (HOWD.out.lt b e).1; have := HA2D.out.lt; omega)).alloc (.cells #[.string S, .int .i64 t6.kind, .string t6.name, .slice A6 t6.kids.length c6] 66)); have HONE := Lib.hid (bind_one S t6 A6 c6); have HBS := Lib.hid (show w.heap.size + 1 ≤ (w6.alloc (.cells #[.string S, .int .i64 t6.kind, .string t6.name, .slice A6 t6.kids.length c6] 66)).heap.size by rw [size_alloc1]; have := HG6.out.size; have := HA2D.out.lt; omega); clear hmd hti hd6 hg6)
              (first | (refine hK _ _ ?_; clear hK K) | skip)
              (refine wpAny_take (i := 9) (v := ?_) (by simp only [List.getElem?_toArray, List.getElem?_cons_succ, List.getElem?_cons_zero]; rfl) (by kernel_rfl) (by kernel_rfl) (by kernel_rfl) (by exact fun _ _ _ h => h) (Or.inl ⟨by rfl, ?_⟩) ?_; rotate_left 1; · (intro w; go_simp; (try with_reducible rfl)))
              refine wpAny_ready (rs := [10]) (by kernel_rfl) (by simp) ?_
              refine AllReady.cons (by simp only [List.getElem?_toArray, List.getElem?_cons_succ, List.getElem?_cons_zero]; rfl) (fun K hK => ?_) ?_
              · go_simp
                (first | (refine hK _ _ ?_; clear hK K) | skip)
                refine wpAny_ready (rs := [11]) (by kernel_rfl) (by simp) ?_
                refine AllReady.cons (by simp only [List.getElem?_toArray, List.getElem?_cons_succ, List.getElem?_cons_zero]; rfl) (fun K hK => ?_) ?_
                · (refine step_append_lies _ (by rfl) _ _ _ (by rfl) (w.heap.size + 1) 66 i0 _ 4 64 Tryz.underlying62 hi0 hz0 hz1 hz2 rfl (by omega) _ n _ (by rfl) HOWN3.out ⟨_, 0, none⟩ 1 1 _ (by rfl) (by rfl) (World.news_of_block (heap_alloc_new _ _)) HONE.out (by omega) (by unfold maxLen; omega) (by omega) HBS.out _ rfl ?_; intro gn cap4 w4 hown4 hgrow hat hlt4; go_simp)
                  (first | (refine hK _ _ ?_; clear hK K) | skip)
                  (refine wpAny_take (i := 12) (v := ?_) (by simp only [List.getElem?_toArray, List.getElem?_cons_succ, List.getElem?_cons_zero]; rfl) (by kernel_rfl) (by kernel_rfl) (by kernel_rfl) (by exact fun _ _ _ h => h) (Or.inl ⟨by rfl, ?_⟩) ?_; rotate_left 1; · (intro w; go_simp; (try with_reducible rfl)))
                  refine wpAny_done (by kernel_rfl) ?_ _
                  have hfin := ValAt.push HA2D.out HN.out.symm HOWD.out HBCD.out HSS.out HG6.out HD6.out HTI.out hown4 hgrow hat
                  rw [← HS.out] at hfin
                  have HFIN := Lib.hid hfin
                  clear hfin hown4 hgrow hat hlt4 n2 n5 n6
                  go_wp2_with fail
                  go_roundw
                  case rel => exact ⟨j + 1, L ++ [⟨nmB j, t6⟩], HLT.out, by go_num, HV.out.push hj2 (by omega) HMD.out, HFIN.out⟩
                  case measure => have := HLT.out; simp [intOf]; omega
                exact AllReady.nil
              exact AllReady.nil
            exact AllReady.nil
          exact AllReady.nil
        refine AllReady.cons (by simp only [List.getElem?_toArray, List.getElem?_cons_succ, List.getElem?_cons_zero]; rfl) (fun K hK => ?_) ?_
        · (go_simp; go_at_call 38; refine (made_next B g 2 _ HA2D.out.dice (by omega) (by omega)).mono ?_; rintro e w5 ⟨q, hq0, hq1, rfl, hd5, hg5⟩; have HA5 := Lib.hid (HA2D.out.dices hd5 hg5); have n5 := HNC.out w5 HA5.out.nm; have HG5 := Lib.hid hg5; clear hd5 hg5; obtain ⟨D, hD, hD1, hD2⟩ : ∃ D : Nat, 1 + q = (D : Int) ∧ 1 ≤ D ∧ D ≤ 2 := ⟨(1 + q).toNat, by omega, by omega, by omega⟩; have hDw : IntKind.i64.wrap (D : Int) = (D : Int) := IntWalk.i64_in _ (by omega))
          (first | (refine hK _ _ ?_; clear hK K) | skip)
          (refine wpAny_take (i := 7) (v := ?_) (by simp only [List.getElem?_toArray, List.getElem?_cons_succ, List.getElem?_cons_zero]; rfl) (by kernel_rfl) (by kernel_rfl) (by kernel_rfl) (by exact fun _ _ _ h => h) (Or.inl ⟨by rfl, ?_⟩) ?_; rotate_left 1; · (intro w; go_simp; (try with_reducible rfl)))
          refine wpAny_ready (rs := [3, 8]) (by kernel_rfl) (by simp) ?_
          refine AllReady.cons (by simp only [List.getElem?_toArray, List.getElem?_cons_succ, List.getElem?_cons_zero]; rfl) (fun K hK => ?_) ?_
          · go_simp
            (first | (refine hK _ _ ?_; clear hK K) | skip)
            refine wpAny_ready (rs := [8]) (by kernel_rfl) (by simp) ?_
            refine AllReady.cons (by simp only [List.getElem?_toArray, List.getElem?_cons_succ, List.getElem?_cons_zero]; rfl) (fun K hK => ?_) ?_
            · (go_simp; go_at_call 17; refine (made_term 0 D hD1 (by omega) B g _ HA5.out.dice).mono ?_; rintro e w6 ⟨t6, A6, c6, hmd, rfl, hti, hd6, hg6⟩; have n6 := HNC.out w6 (HA5.out.dices hd6 hg6).nm; have HMD := Lib.hid hmd; have HD6 := Lib.hid hd6; have HG6 := Lib.hid (grownBy_trans HG5.out hg6); have HTI := Lib.hid (show TermIn (from_ w2.drew.heap.size) w6 _ t6 from hti.keep fun b hb _ => ⟨decide_eq_true (Nat.le_trans HG5.out.size (of_decide_eq_true hb)), rfl⟩); have HOWN3 := Lib.hid ((own_keepS HOWD.out fun b e hl => HG6.out.block b hl (fun e' => by have e'' := Option.some.inj e'; have := (HOWD.out.lt b e).1; have := HA2D.out.lt; omega)).alloc (.cells #[.string S, .int .i64 t6.kind, .string t6.name, .slice A6 t6.kids.length c6] 66)); have HONE := Lib.hid (bind_one S t6 A6 c6); have HBS := Lib.hid (show w.heap.size + 1 ≤ (w6.alloc (.cells #[.string S, .int .i64 t6.kind, .string t6.name, .slice A6 t6.kids.length c6] 66)).heap.size by rw [size_alloc1]; have := HG6.out.size; have := HA2D.out.lt; omega); clear hmd hti hd6 hg6)
              (first | (refine hK _ _ ?_; clear hK K) | skip)
              (refine wpAny_take (i := 9) (v := ?_) (by simp only [List.getElem?_toArray, List.getElem?_cons_succ, List.getElem?_cons_zero]; rfl) (by kernel_rfl) (by kernel_rfl) (by kernel_rfl) (by exact fun _ _ _ h => h) (Or.inl ⟨by rfl, ?_⟩) ?_; rotate_left 1; · (intro w; go_simp; (try with_reducible rfl)))
              refine wpAny_ready (rs := [10]) (by kernel_rfl) (by simp) ?_
              refine AllReady.cons (by simp only [List.getElem?_toArray, List.getElem?_cons_succ, List.getElem?_cons_zero]; rfl) (fun K hK => ?_) ?_
              · go_simp
                (first | (refine hK _ _ ?_; clear hK K) | skip)
                refine wpAny_ready (rs := [11]) (by kernel_rfl) (by simp) ?_
                refine AllReady.cons (by simp only [List.getElem?_toArray, List.getElem?_cons_succ, List.getElem?_cons_zero]; rfl) (fun K hK => ?_) ?_
                · (refine step_append_lies _ (by rfl) _ _ _ (by rfl) (w.heap.size + 1) 66 i0 _ 4 64 Tryz.underlying62 hi0 hz0 hz1 hz2 rfl (by omega) _ n _ (by rfl) HOWN3.out ⟨_, 0, none⟩ 1 1 _ (by rfl) (by rfl) (World.news_of_block (heap_alloc_new _ _)) HONE.out (by omega) (by unfold maxLen; omega) (by omega) HBS.out _ rfl ?_; intro gn cap4 w4 hown4 hgrow hat hlt4; go_simp)
                  (first | (refine hK _ _ ?_; clear hK K) | skip)
                  (refine wpAny_take (i := 12) (v := ?_) (by simp only [List.getElem?_toArray, List.getElem?_cons_succ, List.getElem?_cons_zero]; rfl) (by kernel_rfl) (by kernel_rfl) (by kernel_rfl) (by exact fun _ _ _ h => h) (Or.inl ⟨by rfl, ?_⟩) ?_; rotate_left 1; · (intro w; go_simp; (try with_reducible rfl)))
                  refine wpAny_done (by kernel_rfl) ?_ _
                  have hfin := ValAt.push HA2D.out HN.out.symm HOWD.out HBCD.out HSS.out HG6.out HD6.out HTI.out hown4 hgrow hat
                  rw [← HS.out] at hfin
                  have HFIN := Lib.hid hfin
                  clear hfin hown4 hgrow hat hlt4 n2 n5 n6
                  go_wp2_with fail
                  go_roundw
                  case rel => exact ⟨j + 1, L ++ [⟨nmB j, t6⟩], HLT.out, by go_num, HV.out.push hj2 (by omega) HMD.out, HFIN.out⟩
                  case measure => have := HLT.out; simp [intOf]; omega
                exact AllReady.nil
              exact AllReady.nil
            exact AllReady.nil
          refine AllReady.cons (by simp only [List.getElem?_toArray, List.getElem?_cons_succ, List.getElem?_cons_zero]; rfl) (fun K hK => ?_) ?_
          · (go_simp; go_at_call 17; refine (made_term 0 D hD1 (by omega) B g _ HA5.out.dice).mono ?_; rintro e w6 ⟨t6, A6, c6, hmd, rfl, hti, hd6, hg6⟩; have n6 := HNC.out w6 (HA5.out.dices hd6 hg6).nm; have HMD := Lib.hid hmd; have HD6 := Lib.hid hd6; have HG6 := Lib.hid (grownBy_trans HG5.out hg6); have HTI := Lib.hid (show TermIn (from_ w2.drew.heap.size) w6 _ t6 from hti.keep fun b hb _ => ⟨decide_eq_true (Nat.le_trans HG5.out.size (of_decide_eq_true hb)), rfl⟩); have HOWN3 := Lib.hid ((own_keepS HOWD.out fun b e hl => HG6.out.block b hl (fun e' => by have e'' := Option.some.inj e'; have := (HOWD.out.lt b e).1; have := HA2D.out.lt; omega)).alloc (.cells #[.string S, .int .i64 t6.kind, .string t6.name, .slice A6 t6.kids.length c6] 66)); have HONE := Lib.hid (bind_one S t6 A6 c6); have HBS := Lib.hid (show w.heap.size + 1 ≤ (w6.alloc (.cells #[.string S, .int .i64 t6.kind, .string t6.name, .slice A6 t6.kids.length c6] 66)).heap.size by rw [size_alloc1]; have := HG6.out.size; have := HA2D.out.lt; omega); clear hmd hti hd6 hg6)
            (first | (refine hK _ _ ?_; clear hK K) | skip)
            refine wpAny_ready (rs := [3]) (by kernel_rfl) (by simp) ?_
            refine AllReady.cons (by simp only [List.getElem?_toArray, List.getElem?_cons_succ, List.getElem?_cons_zero]; rfl) (fun K hK => ?_) ?_
            · go_simp
              (first | (refine hK _ _ ?_; clear hK K) | skip)
              (refine wpAny_take (i := 9) (v := ?_) (by simp only [List.getElem?_toArray, List.getElem?_cons_succ, List.getElem?_cons_zero]; rfl) (by kernel_rfl) (by kernel_rfl) (by kernel_rfl) (by exact fun _ _ _ h => h) (Or.inl ⟨by rfl, ?_⟩) ?_; rotate_left 1; · (intro w; go_simp; (try with_reducible rfl)))
              refine wpAny_ready (rs := [10]) (by kernel_rfl) (by simp) ?_
              refine AllReady.cons (by simp only [List.getElem?_toArray, List.getElem?_cons_succ, List.getElem?_cons_zero]; rfl) (fun K hK => ?_) ?_
              · go_simp
                (first | (refine hK _ _ ?_; clear hK K) | skip)
                refine wpAny_ready (rs := [11]) (by kernel_rfl) (by simp) ?_
                refine AllReady.cons (by simp only [List.getElem?_toArray, List.getElem?_cons_succ, List.getElem?_cons_zero]; rfl) (fun K hK => ?_) ?_
                · (refine step_append_lies _ (by rfl) _ _ _ (by rfl) (w.heap.size + 1) 66 i0 _ 4 64 Tryz.underlying62 hi0 hz0 hz1 hz2 rfl (by omega) _ n _ (by rfl) HOWN3.out ⟨_, 0, none⟩ 1 1 _ (by rfl) (by rfl) (World.news_of_block (heap_alloc_new _ _)) HONE.out (by omega) (by unfold maxLen; omega) (by omega) HBS.out _ rfl ?_; intro gn cap4 w4 hown4 hgrow hat hlt4; go_simp)
                  (first | (refine hK _ _ ?_; clear hK K) | skip)
                  (refine wpAny_take (i := 12) (v := ?_) (by simp only [List.getElem?_toArray, List.getElem?_cons_succ, List.getElem?_cons_zero]; rfl) (by kernel_rfl) (by kernel_rfl) (by kernel_rfl) (by exact fun _ _ _ h => h) (Or.inl ⟨by rfl, ?_⟩) ?_; rotate_left 1; · (intro w; go_simp; (try with_reducible rfl)))
                  refine wpAny_done (by kernel_rfl) ?_ _
                  have hfin := ValAt.push HA2D.out HN.out.symm HOWD.out HBCD.out HSS.out HG6.out HD6.out HTI.out hown4 hgrow hat
                  rw [← HS.out] at hfin
                  have HFIN := Lib.hid hfin
                  clear hfin hown4 hgrow hat hlt4 n2 n5 n6
                  go_wp2_with fail
                  go_roundw
                  case rel => exact ⟨j + 1, L ++ [⟨nmB j, t6⟩], HLT.out, by go_num, HV.out.push hj2 (by omega) HMD.out, HFIN.out⟩
                  case measure => have := HLT.out; simp [intOf]; omega
                exact AllReady.nil
              exact AllReady.nil
            exact AllReady.nil
          exact AllReady.nil
        exact AllReady.nil
      · have h1' : (q == 1) = false := by rw [beq_eq_false_iff_ne]; exact h1
        clear h1
        go_wp2_with fail
        go_roundw
        case rel => exact ⟨j + 1, L, HLT.out, by go_num, HV.out.skip, HA2.out⟩
        case measure => have := HLT.out; simp [intOf]; omega
    · obtain rfl : j = 3 := by omega
      have HV := Lib.hid hv; have HA := Lib.hid ha
      clear hv ha
      go_wp2_with fail
      go_ret
      exact ⟨_, L, rfl, HA.out.row, HV.out, HA.out.dice, HA.out.grown⟩
end Go.Proofs.YtihbmgkbipeakaaGreat
