/- Several texts in one: WebCb, WebCc. -/
import Derived.Test.YtihbmgkbipeakaaGreatWebG24
import Derived.Test.YtihbmgkbipeakaaGreatWebG0
import Derived.Test.YtihbmgkbipeakaaGreatWebG25
import Derived.Test.YtihbmgkbipeakaaGreatWebG12
import Derived.Test.YtihbmgkbipeakaaGreatWebG6
namespace Go.Proofs.YtihbmgkbipeakaaGreat
open Go.RowKit

theorem two_boxes (w : World) (a0 a1 a2 b0 b1 b2 : Value) : Box ((w.alloc (.cells #[a0, a1, a2] 29)).alloc (.cells #[b0, b1, b2] 29)) w.heap.size a0 a1 a2 ∧
    Box ((w.alloc (.cells #[a0, a1, a2] 29)).alloc (.cells #[b0, b1, b2] 29)) (w.heap.size + 1) b0 b1 b2 ∧
    Below w.heap.size w ((w.alloc (.cells #[a0, a1, a2] 29)).alloc (.cells #[b0, b1, b2] 29)) := by
  obtain ⟨h1, h2, h3, _⟩ := box_two w a0 a1 a2 b0 b1 b2
  exact ⟨h1, h2, h3⟩

set_option maxRecDepth 100000 in
set_option maxHeartbeats 8000000 in
theorem oone (t : T) (how : Int) (a : T) (htb : t.bulk ≤ 1048576) (hab : a.bulk ≤ 1048576) (hut : t.use = true) (hua : a.use = true) : OneOk t how a (oneF t how a) := by
  intro vt va w ht ha
  obtain ⟨At, ct, rfl⟩ := ht.inAll.view
  obtain ⟨Aa, ca, rfl⟩ := ha.inAll.view
  obtain ⟨bt, ba, hbw⟩ := two_boxes w (.int .i64 t.kind) (.string t.name) (.slice At t.kids.length ct) (.int .i64 a.kind) (.string a.name) (.slice Aa a.kids.length ca)
  have HT := Lib.hid (ht.later hbw); have HA := Lib.hid (ha.later hbw); have HBW := Lib.hid hbw
  have HTK := Lib.hid ht.kids_known; have HAK := Lib.hid ha.kids_known
  have HUT := Lib.hid hut; have HUA := Lib.hid hua
  obtain ⟨R, hR⟩ : ∃ R, oneF t how a = R := ⟨_, rfl⟩
  rw [hR]
  have HR := Lib.hid hR
  have HN3 := Lib.hid (show a.kind = 3 → a.kids.length = 2 from fun h => two_len hua (.inl h)); have HN6 := Lib.hid (show a.kind = 6 → a.kids.length = 2 from fun h => two_len hua (.inr (.inr h))); have HN4 := Lib.hid (show t.kind = 4 → t.kids.length = 1 from fun h => one_len hut h)
  obtain ⟨kt, hkt⟩ : ∃ k, t.kind = k := ⟨_, rfl⟩
  obtain ⟨ka, hka⟩ : ∃ k, a.kind = k := ⟨_, rfl⟩
  obtain ⟨nt, hnt⟩ : ∃ k, t.kids.length = k := ⟨_, rfl⟩
  obtain ⟨na, hna⟩ : ∃ k, a.kids.length = k := ⟨_, rfl⟩
  have HKT := Lib.hid hkt; have HKA := Lib.hid hka; have HNT := Lib.hid hnt; have HNA := Lib.hid hna
  rw [hkt, hka, hnt, hna] at bt ba HBW HT HA
  rw [hka, hna] at HN3 HN6
  rw [hkt, hnt] at HN4
  rw [hkt, hka, hnt, hna]
  clear ht ha hbw hut hua hR hkt hka hnt hna
  go_enter Tryz.func87, Tryz.ntmps87
  go_upto_region 1 with fail
  generalize (w.alloc (.cells #[.int .i64 kt, .string t.name, .slice At nt ct] 29)).alloc (.cells #[.int .i64 ka, .string a.name, .slice Aa na ca] 29) = w1 at bt ba HT HA HBW ⊢
  obtain ⟨t0, t1, t2⟩ := bt.cells
  obtain ⟨a0, a1, a2⟩ := ba.cells
  clear bt ba
  by_cases h2 : how = 2
  · subst h2
    by_cases hkd : ka = 3
    · subst hkd
      have hn := HN3.out rfl
      subst hn
      obtain ⟨kb, off, A0, c0, rfl, d0, d1, d2, hk0⟩ := HA.out.kid (i := 0) (by rw [HNA.out]; decide)
      simp only [Nat.zero_mul, Nat.add_zero] at d0 d1 d2
      have hkb0 := T.kid_bulk (t := a) (i := 0) (by rw [HNA.out]; decide)
      have HE := Lib.hid (show R = sameB (a.kid 0) t by rw [← HR.out]; exact kidB_yes HKA.out)
      have HS := Lib.hid (fun v v' W' (h1 : TermAt W' v (a.kid 0)) (h2 : TermAt W' v' t) => osame (a.kid 0) t v v' W' h1 h2 (by omega) htb)
      have HX := Lib.hid hk0
      obtain ⟨q, hq⟩ : ∃ q, sameB (a.kid 0) t = q := ⟨_, rfl⟩
      rw [hq] at HE HS
      generalize a.kid 0 = X at d0 d1 d2 HS HX
      clear hk0 hkb0 hq
      go_upto_region 3 with fail
      (refine wp_region_held_drew (S := (fun Wq => Wq.cell? ⟨w.heap.size + 1, 0, none⟩ = some (.int .i64 3) ∧ Wq.cell? ⟨w.heap.size + 1, 2, none⟩ = some (.slice (some ⟨kb, off, none⟩) 2 ca) ∧ Wq.cell? ⟨kb, off, none⟩ = some (.int .i64 X.kind) ∧ Wq.cell? ⟨kb, off + 1, none⟩ = some (.string X.name) ∧ Wq.cell? ⟨kb, off + 2, none⟩ = some (.slice A0 X.kids.length c0) ∧ Wq.cell? ⟨w.heap.size, 0, none⟩ = some (.int .i64 kt) ∧ Wq.cell? ⟨w.heap.size, 1, none⟩ = some (.string t.name) ∧ Wq.cell? ⟨w.heap.size, 2, none⟩ = some (.slice At nt ct) ∧ Below w1.heap.size w1 Wq)) (by kernel_rfl) (show _ ∧ _ ∧ _ ∧ _ ∧ _ ∧ _ ∧ _ ∧ _ ∧ _ from ⟨a0, a2, d0, d1, d2, t0, t1, t2, (Below.refl _ w1).drew⟩) (fun hHeld => ?_))
      (refine tkJ 0 _ (h := ?_))
      (refine tkJ 1 _ (h := ?_))
      (refine tkJ 2 _ (h := ?_))
      (refine tkJ 3 _ (h := ?_))
      (first | (refine tkJ 4 _ (h := ?_)) | (refine tkM 4 (h := ?_)))
      (first | (refine tkJ 5 _ (h := ?_)) | (refine tkM 5 (h := ?_)))
      (first | (refine tkJ 6 _ (h := ?_)) | (refine tkM 6 (h := ?_)))
      (first | (refine tkJ 7 _ (h := ?_)) | (refine tkM 7 (h := ?_)))
      (first | (refine tkJ 8 _ (h := ?_)) | (refine tkM 8 (h := ?_)))
      (refine rdJ 9 (h := fun K hK => ?_); go_simp; go_at_call 86; refine (HS.out _ _ _ (HX.out.later hHeld.2.2.2.2.2.2.2.2) (HT.out.later hHeld.2.2.2.2.2.2.2.2)).mono ?_; rintro e wz ⟨rfl, hb4⟩; refine shK hK (held8 hHeld hb4) (h := fun hHeld => ?_); clear hK K)
      (refine tkJ 10 _ (h := ?_))
      (refine tkJ 11 _ (h := ?_))
      (refine wpAnyH_done (by kernel_rfl) ?_ _)
      go_wp2_with fail
      go_ret
      exact ⟨ret_bool HE.out.symm, HBW.out.trans (hHeld.2.2.2.2.2.2.2.2.mono HBW.out.size)⟩
    · have hkd' : (ka == 3) = false := beq_eq_false_iff_ne.2 hkd
      have HE := Lib.hid (show R = false by rw [← HR.out]; exact kidB_no (by rw [HKA.out]; exact hkd))
      clear HN3
      go_upto_region 3 with fail
      (refine wp_region_held_drew (S := (fun Wq => Wq.cell? ⟨w.heap.size + 1, 0, none⟩ = some (.int .i64 ka) ∧ Below w1.heap.size w1 Wq)) (by kernel_rfl) (show _ ∧ _ from ⟨a0, (Below.refl _ w1).drew⟩) (fun hHeld => ?_))
      (refine tkJ 0 _ (h := ?_))
      (refine tkJ 1 _ (h := ?_))
      (refine tkJ 2 _ (h := ?_))
      (refine tkJ 3 _ (h := ?_))
      (first | (refine tkJ 4 _ (h := ?_)) | (refine tkM 4 (h := ?_)))
      (first | (refine tkJ 5 _ (h := ?_)) | (refine tkM 5 (h := ?_)))
      (first | (refine tkJ 6 _ (h := ?_)) | (refine tkM 6 (h := ?_)))
      (first | (refine tkJ 7 _ (h := ?_)) | (refine tkM 7 (h := ?_)))
      (first | (refine tkJ 8 _ (h := ?_)) | (refine tkM 8 (h := ?_)))
      (first | (refine tkJ 9 _ (h := ?_)) | (refine tkM 9 (h := ?_)))
      (refine tkJ 10 _ (h := ?_))
      (refine tkJ 11 _ (h := ?_))
      (refine wpAnyH_done (by kernel_rfl) ?_ _)
      go_wp2_with fail
      go_ret
      exact ⟨ret_bool HE.out.symm, HBW.out.trans (hHeld.2.mono HBW.out.size)⟩
  · by_cases h3 : how = 3
    · subst h3
      clear h2
      by_cases hkd : ka = 3
      · subst hkd
        have hn := HN3.out rfl
        subst hn
        obtain ⟨kb, off, A0, c0, rfl, d0, d1, d2, hk0⟩ := HA.out.kid (i := 1) (by rw [HNA.out]; decide)
        simp only [Nat.one_mul] at d0 d1 d2
        have hkb0 := T.kid_bulk (t := a) (i := 1) (by rw [HNA.out]; decide)
        have HE := Lib.hid (show R = sameB (a.kid 1) t by rw [← HR.out]; exact kidB_yes HKA.out)
        have HS := Lib.hid (fun v v' W' (h1 : TermAt W' v (a.kid 1)) (h2 : TermAt W' v' t) => osame (a.kid 1) t v v' W' h1 h2 (by omega) htb)
        have HX := Lib.hid hk0
        obtain ⟨q, hq⟩ : ∃ q, sameB (a.kid 1) t = q := ⟨_, rfl⟩
        rw [hq] at HE HS
        generalize a.kid 1 = X at d0 d1 d2 HS HX
        clear hk0 hkb0 hq
        go_upto_region 5 with fail
        (refine wp_region_held_drew (S := (fun Wq => Wq.cell? ⟨w.heap.size + 1, 0, none⟩ = some (.int .i64 3) ∧ Wq.cell? ⟨w.heap.size + 1, 2, none⟩ = some (.slice (some ⟨kb, off, none⟩) 2 ca) ∧ Wq.cell? ⟨kb, off + 3, none⟩ = some (.int .i64 X.kind) ∧ Wq.cell? ⟨kb, off + 3 + 1, none⟩ = some (.string X.name) ∧ Wq.cell? ⟨kb, off + 3 + 2, none⟩ = some (.slice A0 X.kids.length c0) ∧ Wq.cell? ⟨w.heap.size, 0, none⟩ = some (.int .i64 kt) ∧ Wq.cell? ⟨w.heap.size, 1, none⟩ = some (.string t.name) ∧ Wq.cell? ⟨w.heap.size, 2, none⟩ = some (.slice At nt ct) ∧ Below w1.heap.size w1 Wq)) (by kernel_rfl) (show _ ∧ _ ∧ _ ∧ _ ∧ _ ∧ _ ∧ _ ∧ _ ∧ _ from ⟨a0, a2, d0, d1, d2, t0, t1, t2, (Below.refl _ w1).drew⟩) (fun hHeld => ?_))
        (refine tkJ 0 _ (h := ?_))
        (refine tkJ 1 _ (h := ?_))
        (refine tkJ 2 _ (h := ?_))
        (refine tkJ 3 _ (h := ?_))
        (first | (refine tkJ 4 _ (h := ?_)) | (refine tkM 4 (h := ?_)))
        (first | (refine tkJ 5 _ (h := ?_)) | (refine tkM 5 (h := ?_)))
        (first | (refine tkJ 6 _ (h := ?_)) | (refine tkM 6 (h := ?_)))
        (first | (refine tkJ 7 _ (h := ?_)) | (refine tkM 7 (h := ?_)))
        (first | (refine tkJ 8 _ (h := ?_)) | (refine tkM 8 (h := ?_)))
        (refine rdJ 9 (h := fun K hK => ?_); go_simp; go_at_call 86; refine (HS.out _ _ _ (HX.out.later hHeld.2.2.2.2.2.2.2.2) (HT.out.later hHeld.2.2.2.2.2.2.2.2)).mono ?_; rintro e wz ⟨rfl, hb4⟩; refine shK hK (held8 hHeld hb4) (h := fun hHeld => ?_); clear hK K)
        (refine tkJ 10 _ (h := ?_))
        (refine tkJ 11 _ (h := ?_))
        (refine wpAnyH_done (by kernel_rfl) ?_ _)
        go_wp2_with fail
        go_ret
        exact ⟨ret_bool HE.out.symm, HBW.out.trans (hHeld.2.2.2.2.2.2.2.2.mono HBW.out.size)⟩
      · have hkd' : (ka == 3) = false := beq_eq_false_iff_ne.2 hkd
        have HE := Lib.hid (show R = false by rw [← HR.out]; exact kidB_no (by rw [HKA.out]; exact hkd))
        clear HN3
        go_upto_region 5 with fail
        (refine wp_region_held_drew (S := (fun Wq => Wq.cell? ⟨w.heap.size + 1, 0, none⟩ = some (.int .i64 ka) ∧ Below w1.heap.size w1 Wq)) (by kernel_rfl) (show _ ∧ _ from ⟨a0, (Below.refl _ w1).drew⟩) (fun hHeld => ?_))
        (refine tkJ 0 _ (h := ?_))
        (refine tkJ 1 _ (h := ?_))
        (refine tkJ 2 _ (h := ?_))
        (refine tkJ 3 _ (h := ?_))
        (first | (refine tkJ 4 _ (h := ?_)) | (refine tkM 4 (h := ?_)))
        (first | (refine tkJ 5 _ (h := ?_)) | (refine tkM 5 (h := ?_)))
        (first | (refine tkJ 6 _ (h := ?_)) | (refine tkM 6 (h := ?_)))
        (first | (refine tkJ 7 _ (h := ?_)) | (refine tkM 7 (h := ?_)))
        (first | (refine tkJ 8 _ (h := ?_)) | (refine tkM 8 (h := ?_)))
        (first | (refine tkJ 9 _ (h := ?_)) | (refine tkM 9 (h := ?_)))
        (refine tkJ 10 _ (h := ?_))
        (refine tkJ 11 _ (h := ?_))
        (refine wpAnyH_done (by kernel_rfl) ?_ _)
        go_wp2_with fail
        go_ret
        exact ⟨ret_bool HE.out.symm, HBW.out.trans (hHeld.2.mono HBW.out.size)⟩
    · by_cases h5 : how = 5
      · subst h5
        clear h2 h3
        by_cases hkd : ka = 6
        · subst hkd
          have hn := HN6.out rfl
          subst hn
          obtain ⟨kb, off, A0, c0, rfl, d0, d1, d2, hk0⟩ := HA.out.kid (i := 1) (by rw [HNA.out]; decide)
          simp only [Nat.one_mul] at d0 d1 d2
          have hkb0 := T.kid_bulk (t := a) (i := 1) (by rw [HNA.out]; decide)
          have HE := Lib.hid (show R = sameB (a.kid 1) t by rw [← HR.out]; exact kidB_yes HKA.out)
          have HS := Lib.hid (fun v v' W' (h1 : TermAt W' v (a.kid 1)) (h2 : TermAt W' v' t) => osame (a.kid 1) t v v' W' h1 h2 (by omega) htb)
          have HX := Lib.hid hk0
          obtain ⟨q, hq⟩ : ∃ q, sameB (a.kid 1) t = q := ⟨_, rfl⟩
          rw [hq] at HE HS
          generalize a.kid 1 = X at d0 d1 d2 HS HX
          clear hk0 hkb0 hq
          go_upto_region 7 with fail
          (refine wp_region_held_drew (S := (fun Wq => Wq.cell? ⟨w.heap.size + 1, 0, none⟩ = some (.int .i64 6) ∧ Wq.cell? ⟨w.heap.size + 1, 2, none⟩ = some (.slice (some ⟨kb, off, none⟩) 2 ca) ∧ Wq.cell? ⟨kb, off + 3, none⟩ = some (.int .i64 X.kind) ∧ Wq.cell? ⟨kb, off + 3 + 1, none⟩ = some (.string X.name) ∧ Wq.cell? ⟨kb, off + 3 + 2, none⟩ = some (.slice A0 X.kids.length c0) ∧ Wq.cell? ⟨w.heap.size, 0, none⟩ = some (.int .i64 kt) ∧ Wq.cell? ⟨w.heap.size, 1, none⟩ = some (.string t.name) ∧ Wq.cell? ⟨w.heap.size, 2, none⟩ = some (.slice At nt ct) ∧ Below w1.heap.size w1 Wq)) (by kernel_rfl) (show _ ∧ _ ∧ _ ∧ _ ∧ _ ∧ _ ∧ _ ∧ _ ∧ _ from ⟨a0, a2, d0, d1, d2, t0, t1, t2, (Below.refl _ w1).drew⟩) (fun hHeld => ?_))
          (refine tkJ 0 _ (h := ?_))
          (refine tkJ 1 _ (h := ?_))
          (refine tkJ 2 _ (h := ?_))
          (refine tkJ 3 _ (h := ?_))
          (first | (refine tkJ 4 _ (h := ?_)) | (refine tkM 4 (h := ?_)))
          (first | (refine tkJ 5 _ (h := ?_)) | (refine tkM 5 (h := ?_)))
          (first | (refine tkJ 6 _ (h := ?_)) | (refine tkM 6 (h := ?_)))
          (first | (refine tkJ 7 _ (h := ?_)) | (refine tkM 7 (h := ?_)))
          (first | (refine tkJ 8 _ (h := ?_)) | (refine tkM 8 (h := ?_)))
          (refine rdJ 9 (h := fun K hK => ?_); go_simp; go_at_call 86; refine (HS.out _ _ _ (HX.out.later hHeld.2.2.2.2.2.2.2.2) (HT.out.later hHeld.2.2.2.2.2.2.2.2)).mono ?_; rintro e wz ⟨rfl, hb4⟩; refine shK hK (held8 hHeld hb4) (h := fun hHeld => ?_); clear hK K)
          (refine tkJ 10 _ (h := ?_))
          (refine tkJ 11 _ (h := ?_))
          (refine wpAnyH_done (by kernel_rfl) ?_ _)
          go_wp2_with fail
          go_ret
          exact ⟨ret_bool HE.out.symm, HBW.out.trans (hHeld.2.2.2.2.2.2.2.2.mono HBW.out.size)⟩
        · have hkd' : (ka == 6) = false := beq_eq_false_iff_ne.2 hkd
          have HE := Lib.hid (show R = false by rw [← HR.out]; exact kidB_no (by rw [HKA.out]; exact hkd))
          clear HN6
          go_upto_region 7 with fail
          (refine wp_region_held_drew (S := (fun Wq => Wq.cell? ⟨w.heap.size + 1, 0, none⟩ = some (.int .i64 ka) ∧ Below w1.heap.size w1 Wq)) (by kernel_rfl) (show _ ∧ _ from ⟨a0, (Below.refl _ w1).drew⟩) (fun hHeld => ?_))
          (refine tkJ 0 _ (h := ?_))
          (refine tkJ 1 _ (h := ?_))
          (refine tkJ 2 _ (h := ?_))
          (refine tkJ 3 _ (h := ?_))
          (first | (refine tkJ 4 _ (h := ?_)) | (refine tkM 4 (h := ?_)))
          (first | (refine tkJ 5 _ (h := ?_)) | (refine tkM 5 (h := ?_)))
          (first | (refine tkJ 6 _ (h := ?_)) | (refine tkM 6 (h := ?_)))
          (first | (refine tkJ 7 _ (h := ?_)) | (refine tkM 7 (h := ?_)))
          (first | (refine tkJ 8 _ (h := ?_)) | (refine tkM 8 (h := ?_)))
          (first | (refine tkJ 9 _ (h := ?_)) | (refine tkM 9 (h := ?_)))
          (refine tkJ 10 _ (h := ?_))
          (refine tkJ 11 _ (h := ?_))
          (refine wpAnyH_done (by kernel_rfl) ?_ _)
          go_wp2_with fail
          go_ret
          exact ⟨ret_bool HE.out.symm, HBW.out.trans (hHeld.2.mono HBW.out.size)⟩
      · by_cases h7 : how = 7
        · subst h7
          clear h2 h3 h5
          by_cases hkd : kt = 4
          · subst hkd
            have hn := HN4.out rfl
            subst hn
            obtain ⟨kb, off, A0, c0, rfl, d0, d1, d2, hk0⟩ := HT.out.kid (i := 0) (by rw [HNT.out]; decide)
            simp only [Nat.zero_mul, Nat.add_zero] at d0 d1 d2
            have hkb0 := T.kid_bulk (t := t) (i := 0) (by rw [HNT.out]; decide)
            have HE := Lib.hid (show R = sameB (t.kid 0) a by rw [← HR.out]; exact kidB_yes HKT.out)
            have HS := Lib.hid (fun v v' W' (h1 : TermAt W' v (t.kid 0)) (h2 : TermAt W' v' a) => osame (t.kid 0) a v v' W' h1 h2 (by omega) hab)
            have HX := Lib.hid hk0
            obtain ⟨q, hq⟩ : ∃ q, sameB (t.kid 0) a = q := ⟨_, rfl⟩
            rw [hq] at HE HS
            generalize t.kid 0 = X at d0 d1 d2 HS HX
            clear hk0 hkb0 hq
            go_upto_region 9 with fail
            (refine wp_region_held_drew (S := (fun Wq => Wq.cell? ⟨w.heap.size, 0, none⟩ = some (.int .i64 4) ∧ Wq.cell? ⟨w.heap.size, 2, none⟩ = some (.slice (some ⟨kb, off, none⟩) 1 ct) ∧ Wq.cell? ⟨kb, off, none⟩ = some (.int .i64 X.kind) ∧ Wq.cell? ⟨kb, off + 1, none⟩ = some (.string X.name) ∧ Wq.cell? ⟨kb, off + 2, none⟩ = some (.slice A0 X.kids.length c0) ∧ Wq.cell? ⟨w.heap.size + 1, 0, none⟩ = some (.int .i64 ka) ∧ Wq.cell? ⟨w.heap.size + 1, 1, none⟩ = some (.string a.name) ∧ Wq.cell? ⟨w.heap.size + 1, 2, none⟩ = some (.slice Aa na ca) ∧ Below w1.heap.size w1 Wq)) (by kernel_rfl) (show _ ∧ _ ∧ _ ∧ _ ∧ _ ∧ _ ∧ _ ∧ _ ∧ _ from ⟨t0, t2, d0, d1, d2, a0, a1, a2, (Below.refl _ w1).drew⟩) (fun hHeld => ?_))
            (refine tkJ 0 _ (h := ?_))
            (refine tkJ 1 _ (h := ?_))
            (refine tkJ 2 _ (h := ?_))
            (refine tkJ 3 _ (h := ?_))
            (first | (refine tkJ 4 _ (h := ?_)) | (refine tkM 4 (h := ?_)))
            (first | (refine tkJ 5 _ (h := ?_)) | (refine tkM 5 (h := ?_)))
            (first | (refine tkJ 6 _ (h := ?_)) | (refine tkM 6 (h := ?_)))
            (first | (refine tkJ 7 _ (h := ?_)) | (refine tkM 7 (h := ?_)))
            (first | (refine tkJ 8 _ (h := ?_)) | (refine tkM 8 (h := ?_)))
            (refine rdJ 9 (h := fun K hK => ?_); go_simp; go_at_call 86; refine (HS.out _ _ _ (HX.out.later hHeld.2.2.2.2.2.2.2.2) (HA.out.later hHeld.2.2.2.2.2.2.2.2)).mono ?_; rintro e wz ⟨rfl, hb4⟩; refine shK hK (held8 hHeld hb4) (h := fun hHeld => ?_); clear hK K)
            (refine tkJ 10 _ (h := ?_))
            (refine tkJ 11 _ (h := ?_))
            (refine wpAnyH_done (by kernel_rfl) ?_ _)
            go_wp2_with fail
            go_ret
            exact ⟨ret_bool HE.out.symm, HBW.out.trans (hHeld.2.2.2.2.2.2.2.2.mono HBW.out.size)⟩
          · have hkd' : (kt == 4) = false := beq_eq_false_iff_ne.2 hkd
            have HE := Lib.hid (show R = false by rw [← HR.out]; exact kidB_no (by rw [HKT.out]; exact hkd))
            clear HN4
            go_upto_region 9 with fail
            (refine wp_region_held_drew (S := (fun Wq => Wq.cell? ⟨w.heap.size, 0, none⟩ = some (.int .i64 kt) ∧ Below w1.heap.size w1 Wq)) (by kernel_rfl) (show _ ∧ _ from ⟨t0, (Below.refl _ w1).drew⟩) (fun hHeld => ?_))
            (refine tkJ 0 _ (h := ?_))
            (refine tkJ 1 _ (h := ?_))
            (refine tkJ 2 _ (h := ?_))
            (refine tkJ 3 _ (h := ?_))
            (first | (refine tkJ 4 _ (h := ?_)) | (refine tkM 4 (h := ?_)))
            (first | (refine tkJ 5 _ (h := ?_)) | (refine tkM 5 (h := ?_)))
            (first | (refine tkJ 6 _ (h := ?_)) | (refine tkM 6 (h := ?_)))
            (first | (refine tkJ 7 _ (h := ?_)) | (refine tkM 7 (h := ?_)))
            (first | (refine tkJ 8 _ (h := ?_)) | (refine tkM 8 (h := ?_)))
            (first | (refine tkJ 9 _ (h := ?_)) | (refine tkM 9 (h := ?_)))
            (refine tkJ 10 _ (h := ?_))
            (refine tkJ 11 _ (h := ?_))
            (refine wpAnyH_done (by kernel_rfl) ?_ _)
            go_wp2_with fail
            go_ret
            exact ⟨ret_bool HE.out.symm, HBW.out.trans (hHeld.2.mono HBW.out.size)⟩
        · by_cases h11 : how = 11
          · subst h11
            clear h2 h3 h5 h7
            have HRB := Lib.hid (show raiseB t a = R from HR.out)
            by_cases hk1 : ka = 1
            · subst hk1
              by_cases hk7 : kt = 7
              · subst hk7
                by_cases hl1 : nt = 1
                · subst hl1
                  obtain ⟨kb, off, A0, c0, rfl, d0, d1, d2, hk0⟩ := HT.out.kid (i := 0) (by rw [HNT.out]; decide)
                  simp only [Nat.zero_mul, Nat.add_zero] at d0 d1 d2
                  have hkb0 := T.kid_bulk (t := t) (i := 0) (by rw [HNT.out]; decide)
                  have HE := Lib.hid (show R = sameB (t.kid 0) a by rw [← HRB.out]; unfold raiseB; rw [decide_eq_true HKA.out, decide_eq_true HKT.out, decide_eq_true HNT.out]; rfl)
                  have HS := Lib.hid (fun v v' W' (h1 : TermAt W' v (t.kid 0)) (h2 : TermAt W' v' a) => osame (t.kid 0) a v v' W' h1 h2 (by omega) hab)
                  have HX := Lib.hid hk0
                  obtain ⟨q, hq⟩ : ∃ q, sameB (t.kid 0) a = q := ⟨_, rfl⟩
                  rw [hq] at HE HS
                  generalize t.kid 0 = X at d0 d1 d2 HS HX
                  clear hk0 hkb0 hq
                  go_upto_region 11 with fail
                  (refine wp_region_held_drew (S := (fun Wq => Wq.cell? ⟨w.heap.size + 1, 0, none⟩ = some (.int .i64 1) ∧ Wq.cell? ⟨w.heap.size, 0, none⟩ = some (.int .i64 7) ∧ Wq.cell? ⟨w.heap.size, 2, none⟩ = some (.slice (some ⟨kb, off, none⟩) 1 ct) ∧ Wq.cell? ⟨kb, off, none⟩ = some (.int .i64 X.kind) ∧ Wq.cell? ⟨kb, off + 1, none⟩ = some (.string X.name) ∧ Wq.cell? ⟨kb, off + 2, none⟩ = some (.slice A0 X.kids.length c0) ∧ Wq.cell? ⟨w.heap.size + 1, 1, none⟩ = some (.string a.name) ∧ Wq.cell? ⟨w.heap.size + 1, 2, none⟩ = some (.slice Aa na ca) ∧ Below w1.heap.size w1 Wq)) (by kernel_rfl) (show _ ∧ _ ∧ _ ∧ _ ∧ _ ∧ _ ∧ _ ∧ _ ∧ _ from ⟨a0, t0, t2, d0, d1, d2, a1, a2, (Below.refl _ w1).drew⟩) (fun hHeld => ?_))
                  (refine tkJ 0 _ (h := ?_))
                  (refine tkJ 1 _ (h := ?_))
                  (refine tkJ 2 _ (h := ?_))
                  (refine tkJ 3 _ (h := ?_))
                  (first | (refine tkJ 4 _ (h := ?_)) | (refine tkM 4 (h := ?_)))
                  (first | (refine tkJ 5 _ (h := ?_)) | (refine tkM 5 (h := ?_)))
                  (first | (refine tkJ 6 _ (h := ?_)) | (refine tkM 6 (h := ?_)))
                  (refine tkJ 7 _ (h := ?_))
                  (refine tkJ 8 _ (h := ?_))
                  (first | (refine tkJ 9 _ (h := ?_)) | (refine tkM 9 (h := ?_)))
                  (first | (refine tkJ 10 _ (h := ?_)) | (refine tkM 10 (h := ?_)))
                  (first | (refine tkJ 11 _ (h := ?_)) | (refine tkM 11 (h := ?_)))
                  (first | (refine tkJ 12 _ (h := ?_)) | (refine tkM 12 (h := ?_)))
                  (refine tkJ 13 _ (h := ?_))
                  (refine tkJ 14 _ (h := ?_))
                  (first | (refine tkJ 15 _ (h := ?_)) | (refine tkM 15 (h := ?_)))
                  (first | (refine tkJ 16 _ (h := ?_)) | (refine tkM 16 (h := ?_)))
                  (first | (refine tkJ 17 _ (h := ?_)) | (refine tkM 17 (h := ?_)))
                  (first | (refine tkJ 18 _ (h := ?_)) | (refine tkM 18 (h := ?_)))
                  (first | (refine tkJ 19 _ (h := ?_)) | (refine tkM 19 (h := ?_)))
                  (refine rdJ 20 (h := fun K hK => ?_); go_simp; go_at_call 86; refine (HS.out _ _ _ (HX.out.later hHeld.2.2.2.2.2.2.2.2) (HA.out.later hHeld.2.2.2.2.2.2.2.2)).mono ?_; rintro e wz ⟨rfl, hb4⟩; refine shK hK (held8 hHeld hb4) (h := fun hHeld => ?_); clear hK K)
                  (refine tkJ 21 _ (h := ?_))
                  (refine tkJ 22 _ (h := ?_))
                  (refine wpAnyH_done (by kernel_rfl) ?_ _)
                  go_wp2_with fail
                  go_ret
                  exact ⟨ret_bool HE.out.symm, HBW.out.trans (hHeld.2.2.2.2.2.2.2.2.mono HBW.out.size)⟩
                · have hl1' : ((nt : Int) == 1) = false := beq_eq_false_iff_ne.2 (by omega)
                  have hl2' : ¬ nt = 1 := hl1
                  have HE := Lib.hid (show R = false by rw [← HRB.out]; unfold raiseB; rw [decide_eq_false (show ¬ t.kids.length = 1 by rw [HNT.out]; exact hl1)]; simp)
                  go_upto_region 11 with fail
                  (refine wp_region_held_drew (S := (fun Wq => Wq.cell? ⟨w.heap.size + 1, 0, none⟩ = some (.int .i64 1) ∧ Wq.cell? ⟨w.heap.size, 0, none⟩ = some (.int .i64 7) ∧ Wq.cell? ⟨w.heap.size, 2, none⟩ = some (.slice At nt ct) ∧ Below w1.heap.size w1 Wq)) (by kernel_rfl) (show _ ∧ _ ∧ _ ∧ _ from ⟨a0, t0, t2, (Below.refl _ w1).drew⟩) (fun hHeld => ?_))
                  (refine tkJ 0 _ (h := ?_))
                  (refine tkJ 1 _ (h := ?_))
                  (refine tkJ 2 _ (h := ?_))
                  (refine tkJ 3 _ (h := ?_))
                  (first | (refine tkJ 4 _ (h := ?_)) | (refine tkM 4 (h := ?_)))
                  (first | (refine tkJ 5 _ (h := ?_)) | (refine tkM 5 (h := ?_)))
                  (first | (refine tkJ 6 _ (h := ?_)) | (refine tkM 6 (h := ?_)))
                  (refine tkJ 7 _ (h := ?_))
                  (refine tkJ 8 _ (h := ?_))
                  (first | (refine tkJ 9 _ (h := ?_)) | (refine tkM 9 (h := ?_)))
                  (first | (refine tkJ 10 _ (h := ?_)) | (refine tkM 10 (h := ?_)))
                  (first | (refine tkJ 11 _ (h := ?_)) | (refine tkM 11 (h := ?_)))
                  (first | (refine tkJ 12 _ (h := ?_)) | (refine tkM 12 (h := ?_)))
                  (refine tkJ 13 _ (h := ?_))
                  (refine tkJ 14 _ (h := ?_))
                  (first | (refine tkJ 15 _ (h := ?_)) | (refine tkM 15 (h := ?_)))
                  (first | (refine tkJ 16 _ (h := ?_)) | (refine tkM 16 (h := ?_)))
                  (first | (refine tkJ 17 _ (h := ?_)) | (refine tkM 17 (h := ?_)))
                  (first | (refine tkJ 18 _ (h := ?_)) | (refine tkM 18 (h := ?_)))
                  (first | (refine tkJ 19 _ (h := ?_)) | (refine tkM 19 (h := ?_)))
                  (first | (refine tkJ 20 _ (h := ?_)) | (refine tkM 20 (h := ?_)))
                  (refine tkJ 21 _ (h := ?_))
                  (refine tkJ 22 _ (h := ?_))
                  (refine wpAnyH_done (by kernel_rfl) ?_ _)
                  go_wp2_with fail
                  go_ret
                  exact ⟨ret_bool HE.out.symm, HBW.out.trans (hHeld.2.2.2.mono HBW.out.size)⟩
              · have hk7' : (kt == 7) = false := beq_eq_false_iff_ne.2 hk7
                have HE := Lib.hid (show R = false by rw [← HRB.out]; unfold raiseB; rw [decide_eq_false (show ¬ t.kind = 7 by rw [HKT.out]; exact hk7)]; simp)
                go_upto_region 11 with fail
                (refine wp_region_held_drew (S := (fun Wq => Wq.cell? ⟨w.heap.size + 1, 0, none⟩ = some (.int .i64 1) ∧ Wq.cell? ⟨w.heap.size, 0, none⟩ = some (.int .i64 kt) ∧ Below w1.heap.size w1 Wq)) (by kernel_rfl) (show _ ∧ _ ∧ _ from ⟨a0, t0, (Below.refl _ w1).drew⟩) (fun hHeld => ?_))
                (refine tkJ 0 _ (h := ?_))
                (refine tkJ 1 _ (h := ?_))
                (refine tkJ 2 _ (h := ?_))
                (refine tkJ 3 _ (h := ?_))
                (first | (refine tkJ 4 _ (h := ?_)) | (refine tkM 4 (h := ?_)))
                (first | (refine tkJ 5 _ (h := ?_)) | (refine tkM 5 (h := ?_)))
                (first | (refine tkJ 6 _ (h := ?_)) | (refine tkM 6 (h := ?_)))
                (refine tkJ 7 _ (h := ?_))
                (refine tkJ 8 _ (h := ?_))
                (first | (refine tkJ 9 _ (h := ?_)) | (refine tkM 9 (h := ?_)))
                (first | (refine tkJ 10 _ (h := ?_)) | (refine tkM 10 (h := ?_)))
                (first | (refine tkJ 11 _ (h := ?_)) | (refine tkM 11 (h := ?_)))
                (first | (refine tkJ 12 _ (h := ?_)) | (refine tkM 12 (h := ?_)))
                (refine tkJ 13 _ (h := ?_))
                (refine tkJ 14 _ (h := ?_))
                (first | (refine tkJ 15 _ (h := ?_)) | (refine tkM 15 (h := ?_)))
                (first | (refine tkJ 16 _ (h := ?_)) | (refine tkM 16 (h := ?_)))
                (first | (refine tkJ 17 _ (h := ?_)) | (refine tkM 17 (h := ?_)))
                (first | (refine tkJ 18 _ (h := ?_)) | (refine tkM 18 (h := ?_)))
                (first | (refine tkJ 19 _ (h := ?_)) | (refine tkM 19 (h := ?_)))
                (first | (refine tkJ 20 _ (h := ?_)) | (refine tkM 20 (h := ?_)))
                (refine tkJ 21 _ (h := ?_))
                (refine tkJ 22 _ (h := ?_))
                (refine wpAnyH_done (by kernel_rfl) ?_ _)
                go_wp2_with fail
                go_ret
                exact ⟨ret_bool HE.out.symm, HBW.out.trans (hHeld.2.2.mono HBW.out.size)⟩
            · have hk1' : (ka == 1) = false := beq_eq_false_iff_ne.2 hk1
              have HE := Lib.hid (show R = false by rw [← HRB.out]; unfold raiseB; rw [decide_eq_false (show ¬ a.kind = 1 by rw [HKA.out]; exact hk1)]; rfl)
              go_upto_region 11 with fail
              (refine wp_region_held_drew (S := (fun Wq => Wq.cell? ⟨w.heap.size + 1, 0, none⟩ = some (.int .i64 ka) ∧ Below w1.heap.size w1 Wq)) (by kernel_rfl) (show _ ∧ _ from ⟨a0, (Below.refl _ w1).drew⟩) (fun hHeld => ?_))
              (refine tkJ 0 _ (h := ?_))
              (refine tkJ 1 _ (h := ?_))
              (refine tkJ 2 _ (h := ?_))
              (refine tkJ 3 _ (h := ?_))
              (first | (refine tkJ 4 _ (h := ?_)) | (refine tkM 4 (h := ?_)))
              (first | (refine tkJ 5 _ (h := ?_)) | (refine tkM 5 (h := ?_)))
              (first | (refine tkJ 6 _ (h := ?_)) | (refine tkM 6 (h := ?_)))
              (refine tkJ 7 _ (h := ?_))
              (refine tkJ 8 _ (h := ?_))
              (first | (refine tkJ 9 _ (h := ?_)) | (refine tkM 9 (h := ?_)))
              (first | (refine tkJ 10 _ (h := ?_)) | (refine tkM 10 (h := ?_)))
              (first | (refine tkJ 11 _ (h := ?_)) | (refine tkM 11 (h := ?_)))
              (first | (refine tkJ 12 _ (h := ?_)) | (refine tkM 12 (h := ?_)))
              (refine tkJ 13 _ (h := ?_))
              (refine tkJ 14 _ (h := ?_))
              (first | (refine tkJ 15 _ (h := ?_)) | (refine tkM 15 (h := ?_)))
              (first | (refine tkJ 16 _ (h := ?_)) | (refine tkM 16 (h := ?_)))
              (first | (refine tkJ 17 _ (h := ?_)) | (refine tkM 17 (h := ?_)))
              (first | (refine tkJ 18 _ (h := ?_)) | (refine tkM 18 (h := ?_)))
              (first | (refine tkJ 19 _ (h := ?_)) | (refine tkM 19 (h := ?_)))
              (first | (refine tkJ 20 _ (h := ?_)) | (refine tkM 20 (h := ?_)))
              (refine tkJ 21 _ (h := ?_))
              (refine tkJ 22 _ (h := ?_))
              (refine wpAnyH_done (by kernel_rfl) ?_ _)
              go_wp2_with fail
              go_ret
              exact ⟨ret_bool HE.out.symm, HBW.out.trans (hHeld.2.mono HBW.out.size)⟩
          · have g2 : (how == 2) = false := beq_eq_false_iff_ne.2 h2
            have g3 : (how == 3) = false := beq_eq_false_iff_ne.2 h3
            have g5 : (how == 5) = false := beq_eq_false_iff_ne.2 h5
            have g7 : (how == 7) = false := beq_eq_false_iff_ne.2 h7
            have g11 : (how == 11) = false := beq_eq_false_iff_ne.2 h11
            have HE := Lib.hid (show R = false by rw [← HR.out]; unfold oneF; rw [if_neg h2, if_neg h3, if_neg h5, if_neg h7, if_neg h11])
            clear h2 h3 h5 h7 h11
            go_wp2_with fail
            go_ret
            exact ⟨ret_bool HE.out.symm, HBW.out⟩
end Go.Proofs.YtihbmgkbipeakaaGreat

namespace Go.Proofs.YtihbmgkbipeakaaGreat
open Go.RowKit

theorem two_no {t a b : T} {k : Int} (h : t.kind ≠ k) : twoB t k a b = false := by unfold twoB; rw [decide_eq_false h]; rfl
theorem two_1 {t a b : T} {k : Int} (h : sameB (t.kid 0) a = false) : twoB t k a b = false := by unfold twoB; rw [h]; simp
theorem two_2 {t a b : T} {k : Int} {q : Bool} (hk : t.kind = k) (h : sameB (t.kid 0) a = true) (h' : sameB (t.kid 1) b = q) : twoB t k a b = q := by unfold twoB; rw [decide_eq_true hk, h, h']; rfl

set_option maxRecDepth 100000 in
set_option maxHeartbeats 8000000 in
theorem otwo (t a b : T) (k : Int) (vt va vb : Value) (w : World) (ht : TermAt w vt t) (ha : TermAt w va a) (hb : TermAt w vb b) (htb : t.bulk ≤ 1048576) (hab : a.bulk ≤ 1048576) (hbb : b.bulk ≤ 1048576) (hut : t.kind = k → t.kids.length = 2) :
    Calls Tryz.prog 124 #[vt, .int .i64 k, va, vb] w fun e w' => e = .returned (.bool (twoB t k a b)) ∧ Below w.heap.size w w' := by
  obtain ⟨At, ct, rfl⟩ := ht.inAll.view
  obtain ⟨Aa, ca, rfl⟩ := ha.inAll.view
  obtain ⟨Ab, cb, rfl⟩ := hb.inAll.view
  obtain ⟨R, hR⟩ : ∃ R, twoB t k a b = R := ⟨_, rfl⟩
  have hf := two_no (t := t) (a := a) (b := b) (k := k); have h1 := two_1 (t := t) (a := a) (b := b) (k := k); have h2 := fun q => two_2 (t := t) (a := a) (b := b) (k := k) (q := q)
  rw [hR] at hf h1 h2 ⊢
  have HF := Lib.hid hf; have H1 := Lib.hid h1; have H2 := Lib.hid h2
  obtain ⟨bt, ba, bb, hbw⟩ := three_boxes w (.int .i64 t.kind) (.string t.name) (.slice At t.kids.length ct) (.int .i64 a.kind) (.string a.name) (.slice Aa a.kids.length ca) (.int .i64 b.kind) (.string b.name) (.slice Ab b.kids.length cb)
  have HT := Lib.hid (ht.later hbw); have HA := Lib.hid (ha.later hbw); have HB := Lib.hid (hb.later hbw); have HBW := Lib.hid hbw
  clear ht ha hb hbw hf h1 h2 hR
  obtain ⟨kt, hkt⟩ : ∃ k, t.kind = k := ⟨_, rfl⟩
  have HKT := Lib.hid hkt
  obtain ⟨nt, hnt⟩ : ∃ n, t.kids.length = n := ⟨_, rfl⟩
  have HNT := Lib.hid hnt
  rw [hkt, hnt] at bt ba bb HT HA HB HBW ⊢
  rw [hkt, hnt] at hut
  clear hkt hnt
  go_enter Tryz.func124, Tryz.ntmps124
  go_upto_region 1 with fail
  generalize ((w.alloc (.cells #[.int .i64 kt, .string t.name, .slice At nt ct] 29)).alloc (.cells #[.int .i64 a.kind, .string a.name, .slice Aa a.kids.length ca] 29)).alloc (.cells #[.int .i64 b.kind, .string b.name, .slice Ab b.kids.length cb] 29) = w1 at bt ba bb HT HA HB HBW ⊢
  obtain ⟨t0, t1, t2⟩ := bt.cells
  obtain ⟨a0, a1, a2⟩ := ba.cells
  obtain ⟨b0, b1, b2⟩ := bb.cells
  clear bt ba bb
  by_cases h5 : kt = k
  · subst h5
    have hn2 := hut rfl
    subst hn2
    clear hut
    obtain ⟨kb, off, A0, c0, rfl, d0, d1, d2, hk0⟩ := HT.out.kid (i := 0) (by rw [HNT.out]; decide)
    obtain ⟨_, _, A1, c1, e1, f0, f1, f2, hk1⟩ := HT.out.kid (i := 1) (by rw [HNT.out]; decide)
    injection e1 with e1; injection e1 with e1 e2; subst e1; subst e2
    simp only [Nat.zero_mul, Nat.add_zero, Nat.one_mul] at d0 d1 d2 f0 f1 f2
    have hkb0 := T.kid_bulk (t := t) (i := 0) (by rw [HNT.out]; decide)
    have hkb1 := T.kid_bulk (t := t) (i := 1) (by rw [HNT.out]; decide)
    have HK0 := Lib.hid hk0; have HK1 := Lib.hid hk1
    have HS0 := Lib.hid (fun v v' W' (h1 : TermAt W' v (t.kid 0)) (h2 : TermAt W' v' a) => osame (t.kid 0) a v v' W' h1 h2 (by omega) hab)
    have HS1 := Lib.hid (fun v v' W' (h1 : TermAt W' v (t.kid 1)) (h2 : TermAt W' v' b) => osame (t.kid 1) b v v' W' h1 h2 (by omega) hbb)
    clear hk0 hk1 hkb0 hkb1
    cases hs : sameB (t.kid 0) a with
    | false =>
      have HE := Lib.hid (H1.out hs)
      rw [hs] at HS0
      clear hs H1 H2 HF
      generalize t.kid 0 = X at d0 d1 d2 HS0 HK0
      go_upto_region 1 with fail
      (refine wp_region_held_drew (S := (fun Wq => Wq.cell? ⟨w.heap.size, 0, none⟩ = some (.int .i64 kt) ∧ Wq.cell? ⟨w.heap.size, 2, none⟩ = some (.slice (some ⟨kb, off, none⟩) 2 ct) ∧ Wq.cell? ⟨kb, off, none⟩ = some (.int .i64 X.kind) ∧ Wq.cell? ⟨kb, off + 1, none⟩ = some (.string X.name) ∧ Wq.cell? ⟨kb, off + 2, none⟩ = some (.slice A0 X.kids.length c0) ∧ Wq.cell? ⟨w.heap.size + 1, 0, none⟩ = some (.int .i64 a.kind) ∧ Wq.cell? ⟨w.heap.size + 1, 1, none⟩ = some (.string a.name) ∧ Wq.cell? ⟨w.heap.size + 1, 2, none⟩ = some (.slice Aa a.kids.length ca) ∧ Below w1.heap.size w1 Wq)) (by kernel_rfl) (show _ ∧ _ ∧ _ ∧ _ ∧ _ ∧ _ ∧ _ ∧ _ ∧ _ from ⟨t0, t2, d0, d1, d2, a0, a1, a2, (Below.refl _ w1).drew⟩) (fun hHeld => ?_))
      (refine tkJ 0 _ (h := ?_))
      (refine tkJ 1 _ (h := ?_))
      (refine tkJ 2 _ (h := ?_))
      (refine tkJ 3 _ (h := ?_))
      (refine tkJ 4 _ (h := ?_))
      (first | (refine tkJ 5 _ (h := ?_)) | (refine tkM 5 (h := ?_)))
      (first | (refine tkJ 6 _ (h := ?_)) | (refine tkM 6 (h := ?_)))
      (first | (refine tkJ 7 _ (h := ?_)) | (refine tkM 7 (h := ?_)))
      (first | (refine tkJ 8 _ (h := ?_)) | (refine tkM 8 (h := ?_)))
      (first | (refine tkJ 9 _ (h := ?_)) | (refine tkM 9 (h := ?_)))
      (refine rdJ 10 (h := fun K hK => ?_); go_simp; go_at_call 86; refine (HS0.out _ _ _ (HK0.out.later hHeld.2.2.2.2.2.2.2.2) (HA.out.later hHeld.2.2.2.2.2.2.2.2)).mono ?_; rintro e wz ⟨rfl, hb4⟩; refine shK hK (held8 hHeld hb4) (h := fun hHeld => ?_); clear hK K)
      (refine tkJ 11 _ (h := ?_))
      (refine tkJ 12 _ (h := ?_))
      (first | (refine tkJ 13 _ (h := ?_)) | (refine tkM 13 (h := ?_)))
      (first | (refine tkJ 14 _ (h := ?_)) | (refine tkM 14 (h := ?_)))
      (first | (refine tkJ 15 _ (h := ?_)) | (refine tkM 15 (h := ?_)))
      (first | (refine tkJ 16 _ (h := ?_)) | (refine tkM 16 (h := ?_)))
      (first | (refine tkJ 17 _ (h := ?_)) | (refine tkM 17 (h := ?_)))
      (first | (refine tkJ 18 _ (h := ?_)) | (refine tkM 18 (h := ?_)))
      (refine tkJ 19 _ (h := ?_))
      (refine tkJ 20 _ (h := ?_))
      (refine wpAnyH_done (by kernel_rfl) ?_ _)
      go_wp2_with fail
      go_ret
      exact ⟨ret_bool HE.out.symm, HBW.out.trans (hHeld.2.2.2.2.2.2.2.2.mono HBW.out.size)⟩
    | true =>
      obtain ⟨q, hq⟩ : ∃ q, sameB (t.kid 1) b = q := ⟨_, rfl⟩
      have HE := Lib.hid (H2.out q HKT.out hs hq)
      rw [hs] at HS0
      rw [hq] at HS1
      clear hs hq H1 H2 HF
      generalize t.kid 0 = X at d0 d1 d2 HS0 HK0
      generalize t.kid 1 = Y at f0 f1 f2 HS1 HK1
      go_upto_region 1 with fail
      (refine wp_region_held_drew (S := (fun Wq => Wq.cell? ⟨w.heap.size, 0, none⟩ = some (.int .i64 kt) ∧ Wq.cell? ⟨w.heap.size, 2, none⟩ = some (.slice (some ⟨kb, off, none⟩) 2 ct) ∧ Wq.cell? ⟨kb, off, none⟩ = some (.int .i64 X.kind) ∧ Wq.cell? ⟨kb, off + 1, none⟩ = some (.string X.name) ∧ Wq.cell? ⟨kb, off + 2, none⟩ = some (.slice A0 X.kids.length c0) ∧ Wq.cell? ⟨w.heap.size + 1, 0, none⟩ = some (.int .i64 a.kind) ∧ Wq.cell? ⟨w.heap.size + 1, 1, none⟩ = some (.string a.name) ∧ Wq.cell? ⟨w.heap.size + 1, 2, none⟩ = some (.slice Aa a.kids.length ca) ∧ Wq.cell? ⟨kb, off + 3, none⟩ = some (.int .i64 Y.kind) ∧ Wq.cell? ⟨kb, off + 3 + 1, none⟩ = some (.string Y.name) ∧ Wq.cell? ⟨kb, off + 3 + 2, none⟩ = some (.slice A1 Y.kids.length c1) ∧ Wq.cell? ⟨w.heap.size + 1 + 1, 0, none⟩ = some (.int .i64 b.kind) ∧ Wq.cell? ⟨w.heap.size + 1 + 1, 1, none⟩ = some (.string b.name) ∧ Wq.cell? ⟨w.heap.size + 1 + 1, 2, none⟩ = some (.slice Ab b.kids.length cb) ∧ Below w1.heap.size w1 Wq)) (by kernel_rfl) (show _ ∧ _ ∧ _ ∧ _ ∧ _ ∧ _ ∧ _ ∧ _ ∧ _ ∧ _ ∧ _ ∧ _ ∧ _ ∧ _ ∧ _ from ⟨t0, t2, d0, d1, d2, a0, a1, a2, f0, f1, f2, b0, b1, b2, (Below.refl _ w1).drew⟩) (fun hHeld => ?_))
      (refine tkJ 0 _ (h := ?_))
      (refine tkJ 1 _ (h := ?_))
      (refine tkJ 2 _ (h := ?_))
      (refine tkJ 3 _ (h := ?_))
      (refine tkJ 4 _ (h := ?_))
      (refine tkJ 5 _ (h := ?_))
      (refine tkJ 6 _ (h := ?_))
      (refine tkJ 7 _ (h := ?_))
      (refine tkJ 8 _ (h := ?_))
      (refine tkJ 9 _ (h := ?_))
      (refine rdJ 10 (h := fun K hK => ?_); go_simp; go_at_call 86; refine (HS0.out _ _ _ (HK0.out.later hHeld.2.2.2.2.2.2.2.2.2.2.2.2.2.2) (HA.out.later hHeld.2.2.2.2.2.2.2.2.2.2.2.2.2.2)).mono ?_; rintro e wz ⟨rfl, hb4⟩; refine shK hK (held14 hHeld hb4) (h := fun hHeld => ?_); clear hK K)
      (refine tkJ 11 _ (h := ?_))
      (refine tkJ 12 _ (h := ?_))
      (refine tkJ 13 _ (h := ?_))
      (refine tkJ 14 _ (h := ?_))
      (refine tkJ 15 _ (h := ?_))
      (refine tkJ 16 _ (h := ?_))
      (refine tkJ 17 _ (h := ?_))
      (refine rdJ 18 (h := fun K hK => ?_); go_simp; go_at_call 86; refine (HS1.out _ _ _ (HK1.out.later hHeld.2.2.2.2.2.2.2.2.2.2.2.2.2.2) (HB.out.later hHeld.2.2.2.2.2.2.2.2.2.2.2.2.2.2)).mono ?_; rintro e wz2 ⟨rfl, hb4⟩; refine shK hK (held14 hHeld hb4) (h := fun hHeld => ?_); clear hK K)
      (refine tkJ 19 _ (h := ?_))
      (refine tkJ 20 _ (h := ?_))
      (refine wpAnyH_done (by kernel_rfl) ?_ _)
      go_wp2_with fail
      go_ret
      exact ⟨ret_bool HE.out.symm, HBW.out.trans (hHeld.2.2.2.2.2.2.2.2.2.2.2.2.2.2.mono HBW.out.size)⟩
  · have h5' : (kt == k) = false := by rw [beq_eq_false_iff_ne]; exact h5
    have HE := Lib.hid (HF.out (by rw [HKT.out]; exact h5))
    clear hut
    go_upto_region 1 with fail
    (refine wp_region_held_drew (S := (fun Wq => Wq.cell? ⟨w.heap.size, 0, none⟩ = some (.int .i64 kt) ∧ Below w1.heap.size w1 Wq)) (by kernel_rfl) (show _ ∧ _ from ⟨t0, (Below.refl _ w1).drew⟩) (fun hHeld => ?_))
    (refine tkJ 0 _ (h := ?_))
    (refine tkJ 1 _ (h := ?_))
    (refine tkJ 2 _ (h := ?_))
    (refine tkJ 3 _ (h := ?_))
    (refine tkJ 4 _ (h := ?_))
    (first | (refine tkJ 5 _ (h := ?_)) | (refine tkM 5 (h := ?_)))
    (first | (refine tkJ 6 _ (h := ?_)) | (refine tkM 6 (h := ?_)))
    (first | (refine tkJ 7 _ (h := ?_)) | (refine tkM 7 (h := ?_)))
    (first | (refine tkJ 8 _ (h := ?_)) | (refine tkM 8 (h := ?_)))
    (first | (refine tkJ 9 _ (h := ?_)) | (refine tkM 9 (h := ?_)))
    (first | (refine tkJ 10 _ (h := ?_)) | (refine tkM 10 (h := ?_)))
    (refine tkJ 11 _ (h := ?_))
    (refine tkJ 12 _ (h := ?_))
    (first | (refine tkJ 13 _ (h := ?_)) | (refine tkM 13 (h := ?_)))
    (first | (refine tkJ 14 _ (h := ?_)) | (refine tkM 14 (h := ?_)))
    (first | (refine tkJ 15 _ (h := ?_)) | (refine tkM 15 (h := ?_)))
    (first | (refine tkJ 16 _ (h := ?_)) | (refine tkM 16 (h := ?_)))
    (first | (refine tkJ 17 _ (h := ?_)) | (refine tkM 17 (h := ?_)))
    (first | (refine tkJ 18 _ (h := ?_)) | (refine tkM 18 (h := ?_)))
    (refine tkJ 19 _ (h := ?_))
    (refine tkJ 20 _ (h := ?_))
    (refine wpAnyH_done (by kernel_rfl) ?_ _)
    go_wp2_with fail
    go_ret
    exact ⟨ret_bool HE.out.symm, HBW.out.trans (hHeld.2.mono HBW.out.size)⟩

/-- How large a term of a proper shape can be. -/
theorem shape_bulk_aux : ∀ (N : Nat) (t : T), t.bulk < N → t.shape = true → t.bulk ≤ 20 * t.size
  | 0, _, h, _ => by omega
  | N + 1, t, hN, hs => by
    obtain ⟨k, s, ks⟩ := t
    by_cases h12 : k = 1 ∨ k = 2
    · rw [T.shape_atom k s ks h12, Bool.and_eq_true, beq_iff_eq] at hs
      have e := List.eq_nil_of_length_eq_zero hs.2
      subst e
      have h16 : s.size ≤ 16 := by
        have := hs.1
        unfold T.isName at this
        rw [Bool.and_eq_true, Bool.and_eq_true, decide_eq_true_eq, decide_eq_true_eq] at this
        exact this.2.2
      simp only [T.bulk, T.bulkAll, T.size, T.sizeAll]; omega
    · rw [T.shape_head k s ks (fun e => h12 (.inl e)) (fun e => h12 (.inr e)), Bool.and_eq_true, Bool.and_eq_true, Bool.not_eq_true'] at hs
      obtain ⟨⟨_, h1⟩, h2⟩ := hs
      have e := T.empty_of h1
      subst e
      have hall : ∀ (l : List T), (∀ x ∈ l, x.bulk < N ∧ x.shape = true) → T.bulkAll l ≤ 20 * T.sizeAll l := fun l => by
        induction l with
        | nil => intro _; simp [T.bulkAll]
        | cons x r ih =>
          intro h
          have hx := h x (by simp)
          have a1 := shape_bulk_aux N x hx.1 hx.2
          have a2 := ih fun y hy => h y (List.mem_cons_of_mem _ hy)
          simp only [T.bulkAll, T.sizeAll]; omega
      have := hall ks fun x hx => by
        obtain ⟨i, hi, rfl⟩ := List.getElem_of_mem hx
        have hb := T.bulk_at ks i hi
        simp only [T.bulk] at hN
        refine ⟨by omega, ?_⟩
        have := List.any_eq_false.1 h2 _ hx
        simpa using this
      simp only [T.bulk, T.size]
      have : (⟨#[]⟩ : ByteArray).size = 0 := rfl
      omega
theorem use_bulk {t : T} (h : t.use = true) : t.bulk ≤ 800 := by
  have hv := T.use_valid h
  obtain ⟨h1, h2⟩ := Bool.and_eq_true_iff.1 hv
  have := shape_bulk_aux (t.bulk + 1) t (Nat.lt_succ_self _) h2
  have := of_decide_eq_true h1
  omega
theorem bulkAll_app (l m : List T) : T.bulkAll (l ++ m) = T.bulkAll l + T.bulkAll m := T.bulkAll_append l m
end Go.Proofs.YtihbmgkbipeakaaGreat
