/- Chapter 10: the walk of strings.IndexRune beyond ASCII, over a short text in which no byte that goes on stands more than twice. -/
import Derived.Test.YtdejgomljelnlaaDoorOptIxr
import Derived.ScopeJumps
namespace Go.Proofs.YtdejgomljelnlaaDoor
open Go.RowKit Go.Lib
/-- A scope in which the run jumps at most once, on to one label: what follows the label is walked where the jump stands. -/
theorem wp_scope_on {P : Program} {a : Act} {w : World} {Q : Exit → Act → World → Prop} {c rest : Code} (l : Nat) (hf : findLabel c l = some rest)
    (first : c.wp P (Exit.jump l (fun a' w' => rest.wp P (Exit.noGoto Q) a' w') Q) a w) : (Code.scope c).wp P Q a w :=
  wp_scope_jumps l _ (fun _ _ => 0) hf first fun a w h => Code.wp_mono (fun e a' w' hq => by
    cases e with
    | goto l' => exact hq.elim
    | _ => exact hq) h
@[local go_sem] theorem jump_normal {l : Nat} {J : Act → World → Prop} {Q : Exit → Act → World → Prop} {a : Act} {w : World} : Exit.jump l J Q .normal a w = Q .normal a w := rfl
@[local go_sem] theorem jump_exit {l : Nat} {J : Act → World → Prop} {Q : Exit → Act → World → Prop} {a : Act} {w : World} (id : Nat) : Exit.jump l J Q (.exit id) a w = Q (.exit id) a w := rfl
@[local go_sem] theorem jump_ret {l : Nat} {J : Act → World → Prop} {Q : Exit → Act → World → Prop} {a : Act} {w : World} : Exit.jump l J Q .ret a w = Q .ret a w := rfl
theorem Opt.at_some {s : ByteArray} {i : Nat} {c : UInt8} (h : i < s.size) (e : s.data.toList.getD i 0 = c) : s.data.toList[i]? = some c := by
  have hl : i < s.data.toList.length := by rw [Opt.size_len]; exact h
  rw [List.getElem?_eq_getElem hl, ← e, List.getD, List.getElem?_eq_getElem hl]; rfl
theorem Opt.some_at {s : ByteArray} {i : Nat} {c : UInt8} (h : i < s.size) (e : s.data.toList[i]? = some c) : s[i] = c := by
  have hl : i < s.data.toList.length := by rw [Opt.size_len]; exact h
  rw [List.getElem?_eq_getElem hl] at e
  exact Option.some.inj e
theorem Opt.count_on {s : ByteArray} {k k' m : Nat} {c : UInt8} (hm : m ≤ (s.data.toList.take k).count c) (hk : k ≤ k') (h : k' < s.size) (e : s[k'] = c) : m + 1 ≤ (s.data.toList.take (k' + 1)).count c := by
  rw [Opt.take_snoc s k' h, List.count_append, e]
  have h1 : (s.data.toList.take k).count c ≤ (s.data.toList.take k').count c := by
    have : s.data.toList.take k = (s.data.toList.take k').take k := by rw [List.take_take, Nat.min_eq_left hk]
    rw [this]
    exact List.Sublist.count_le _ (List.take_sublist _ _)
  simp
  omega
set_option maxRecDepth 100000 in
set_option maxHeartbeats 4000000 in
theorem oindexRune (s : ByteArray) (r : Nat) (w : World) (hs : s.size ≤ 1000) (h0 : 128 ≤ r) (h1 : r ≤ 1114111) (h2 : r ≠ 65533) (h3 : ¬ (55296 ≤ r ∧ r ≤ 57343)) (hcnt : ∀ c : UInt8, c.toNat < 192 → s.data.toList.count c ≤ 2) :
    Calls Tryd.prog 74 #[.string s, .int .i32 r] w fun e w' => ∃ z : Int, e = .returned (.int .i64 z) ∧ (0 ≤ z ↔ ∃ p, Opt.At s.data.toList (encodeRune (r : Int)) p) ∧ Below w.heap.size w w' := by
  have hl := Opt.encode_list r h0 h1 h3
  obtain ⟨g1, g2, g3⟩ := Opt.encode_last r h0 h1 h3
  have hvr : Lib.validRune (r : Int) = true := by unfold Lib.validRune; simp; omega
  have c1 : (0 : Int) ≤ (r : Int) := by omega
  have c2 : ¬ ((r : Int) < 128) := by omega
  have c3 : ((r : Int) == 65533) = false := by simp; omega
  obtain ⟨R, hR⟩ : ∃ R, Utf8.encode (r : Int) = R := ⟨_, rfl⟩
  rw [hR] at hl
  rw [← hl] at g1 g2 g3 ⊢
  rw [Opt.size_len] at g1 g2 g3
  obtain ⟨n, hn⟩ : ∃ n, R.size = n + 1 := ⟨R.size - 1, by omega⟩
  go_enter Tryd.func74, Tryd.ntmps74
  go_wp2_with (go_at_call 88; refine (Tryd.utf8_ValidRune _ _).mono ?_; rintro e w' ⟨rfl, rfl⟩; rw [hvr])
  clear hvr c1 c2 c3 h0 h1 h2 h3
  have hnlt : n < R.size := by omega
  obtain ⟨cl, hcl⟩ : ∃ c, R[n]'(hnlt) = c := ⟨_, rfl⟩
  have hcg : R.data.toList.getD n 0 = cl := by rw [Opt.getD_at R n (by omega), hcl]
  have hc2 := hcnt cl (by rw [← hcg, show n = R.size - 1 by omega]; exact g3)
  have hM : ∀ p, Opt.At s.data.toList R.data.toList p → p + n < s.size ∧ s.data.toList.getD (p + n) 0 = cl := fun p h => by
    have h1 := h.1
    rw [Opt.size_len, Opt.size_len] at h1
    refine ⟨by omega, ?_⟩
    rw [h.2 n (by rw [Opt.size_len]; omega), hcg]
  have HM := Lib.hid hM; have HC2 := Lib.hid hc2; have HCL := Lib.hid hcl; have HL := Lib.hid hl
  have n1 : 1 ≤ n := by omega
  have n3 : n ≤ 3 := by omega
  clear hM hc2 hcg hcnt g1 g2 g3 hl hcl
  go_step3
  go_wp2_with fail
  go_loopw [9, 10] (fun i f wr => ∃ k m : Nat, n ≤ k ∧ k ≤ s.size + n ∧ i = .int .i64 k ∧ f = .int .i64 m ∧ m ≤ (s.data.toList.take k).count cl ∧ (∀ p, p + n < k → ¬ Opt.At s.data.toList R.data.toList p) ∧ Below w'.heap.size w' wr) (fun i _ _ => s.size + 5 - (intOf i).toNat)
  case atStart => exact ⟨n, 0, Nat.le_refl _, by omega, rfl, rfl, Nat.zero_le _, fun p h => absurd h (by omega), Below.refl _ _⟩
  case round =>
    obtain ⟨k, m, hk, hkz, rfl, rfl, hm, hno, hb⟩ := hrel
    have HM2 := Lib.hid hm; have HNO := Lib.hid hno; have HB := Lib.hid hb
    clear hm hno hb
    by_cases hlt : k < s.size
    · have c1 : (k : Int) < (s.size : Int) := by omega
      go_wp2_with fail
      refine wp_scope_on 0 (by rfl) ?_
      have k0 : (0 : Int) ≤ (k : Int) := by omega
      have kn : (n : Int) < (R.size : Int) := by omega
      have HN := Lib.hid hn
      have HRR := Lib.hid hR
      clear hn hR
      obtain ⟨nb, hnb⟩ : ∃ nb : Bool, ((s[k].toNat : Int) != (R[n].toNat : Int)) = nb := ⟨_, rfl⟩
      have hnc : nb = decide (s[k] ≠ cl) := by
        rw [← hnb, HCL.out]
        by_cases hc : s[k] = cl
        · rw [hc]; simp
        · rw [decide_eq_true hc]; simp; intro h; exact hc (UInt8.toNat_inj.1 (by omega))
      have HNC := Lib.hid hnc
      clear hnc
      go_upto_region 6 with fail
      go_region
      clear hnb
      go_upto_if 33 with fail
      go_cut [9] from 34 to 47 (fun i wc => ∃ k' : Nat, k ≤ k' ∧ (∃ h : k' < s.size, s[k'] = cl) ∧ (∀ j, k ≤ j → j < k' → s.data.toList.getD j 0 ≠ cl) ∧ i = .int .i64 k' ∧ Below w'.heap.size w' wc)
      case first =>
        cases nb with
        | false =>
          go_wp2_with fail
          go_meet
          exact ⟨k, Nat.le_refl _, ⟨hlt, by have := HNC.out; simpa using this⟩, fun j h1 h2 => absurd h2 (by omega), rfl, HB.out.drew⟩
        | true =>
          have HCC := Lib.hid (show s[k] ≠ cl by have := HNC.out; simpa using this)
          have hIB := fun w => Tryd.strings_IndexByte (s.extract (k + 1) s.size) (R[n].toNat : Int) w
          have eb : ((R[n].toNat : Int)).toNat.toUInt8 = cl := by rw [HCL.out]; simp
          rw [eb, Lib.extract_data] at hIB
          obtain ⟨O, hO⟩ : ∃ O, Lib.indexByte ((s.data.toList.drop (k + 1)).take (s.size - (k + 1))) cl = O := ⟨_, rfl⟩
          rw [hO] at hIB
          have hO1 : -1 ≤ O := by rw [← hO]; exact Lib.indexByte_ge _ _
          have HO := Lib.hid hO; have HIB := Lib.hid hIB
          clear hO hIB eb
          have c4 : (k : Int) + 1 ≤ (s.size : Int) := by omega
          have c5 : (0 : Int) ≤ (k : Int) + 1 := by omega
          have c6 : IntKind.i64.wrap ((k : Int) + 1) = (k : Int) + 1 := IntWalk.i64_in _ (by omega)
          go_wp2_with fail
          go_quiet ((go_at_call 87; exact quiet_al ((HIB.out _).mono fun e w'' h => ⟨h.1, h.2.symm⟩)))
          by_cases hz : O < 0
          · go_wp2_with fail
            simp only [jump_ret]
            show Exit.noGoto _ .ret _ _
            simp only [Exit.noGoto_ret]
            try simp only [Exit.then, Exit.inBlock]
            try (show Exit.noGoto _ .ret _ _; simp only [Exit.noGoto_ret])
            go_ret
            refine ⟨-1, rfl, ⟨fun h => absurd h (by decide), fun ⟨p, hp⟩ => ?_⟩, below_drewN HB.out _⟩
            exfalso
            obtain ⟨q1, q2⟩ := HM.out p hp
            have q3 : k ≤ p + n := Nat.le_of_not_lt fun h => HNO.out p h hp
            obtain rfl : O = -1 := by omega
            have q4 := Lib.indexByte_none HO.out (p + n - (k + 1))
            by_cases q5 : p + n = k
            · rw [q5, Opt.getD_at s k hlt] at q2; exact HCC.out q2
            · exact q4 (by rw [List.getElem?_take, if_pos (by omega), List.getElem?_drop, show k + 1 + (p + n - (k + 1)) = p + n by omega]; exact Opt.at_some q1 q2)
          · obtain ⟨o, rfl⟩ : ∃ o : Nat, O = o := ⟨O.toNat, by omega⟩
            have HOL := Lib.hid (Lib.indexByte_some HO.out)
            have ho : k + 1 + o < s.size := by
              have := HOL.out.1
              rw [List.getElem?_take] at this
              split at this
              · omega
              · cases this
            go_wp2_with fail
            go_meet
            refine ⟨k + 1 + o, by omega, ⟨ho, ?_⟩, fun j h1 h2 hj => ?_, by go_num, below_drewN HB.out _⟩
            · have h1 := HOL.out.1
              rw [List.getElem?_take, if_pos (by omega), List.getElem?_drop] at h1
              exact Opt.some_at ho h1
            · by_cases q5 : j = k
              · rw [q5, Opt.getD_at s k hlt] at hj; exact HCC.out hj
              · exact HOL.out.2 (j - (k + 1)) (by omega) (by rw [List.getElem?_take, if_pos (by omega), List.getElem?_drop, show k + 1 + (j - (k + 1)) = j by omega]; exact Opt.at_some (by omega) hj)
      case rest =>
        obtain ⟨k', hkk, ⟨hlt', hc'⟩, hbt, rfl, hb'⟩ := hcut
        have HCC := Lib.hid hc'; have HBT := Lib.hid hbt; have HB' := Lib.hid hb'
        have HKK := Lib.hid hkk
        have hsz := HN.out
        have HKN := Lib.hid (show n ≤ k' by omega)
        clear hc' hbt hb' hkk
        have m0 : (n : Int) ≤ (k' : Int) := by have := HKN.out; omega
        have m1 : (k' : Int) < (s.size : Int) := by omega
        clear hsz
        go_upto_region 11 with fail
        go_wp2_with fail
        go_loopw [12] (fun j wx => ∃ a : Nat, 1 ≤ a ∧ a ≤ n + 1 ∧ j = .int .i64 a ∧ (∀ i, i < a → s.data.toList.getD (k' - i) 0 = R.data.toList.getD (n - i) 0) ∧ Below w'.heap.size w' wx) (fun j _ => n + 5 - (intOf j).toNat)
        case atStart =>
          refine ⟨1, Nat.le_refl _, by omega, rfl, fun i hi => ?_, HB'.out⟩
          obtain rfl : i = 0 := by omega
          rw [Nat.sub_zero, Nat.sub_zero, Opt.getD_at s k' hlt', Opt.getD_at R n hnlt, HCC.out, HCL.out]
        case round =>
          obtain ⟨a, ha1, ha2, rfl, hal, hbx⟩ := hrel
          have HAL := Lib.hid hal; have HBX := Lib.hid hbx
          clear hal hbx
          by_cases han : a < n + 1
          · have hsz := HN.out; have hkn := HKN.out
            have d1 : (a : Int) < (R.size : Int) := by omega
            obtain ⟨b, hb0⟩ : ∃ b, k' - a = b := ⟨_, rfl⟩
            obtain ⟨c, hc0⟩ : ∃ c, n - a = c := ⟨_, rfl⟩
            have d2 : IntKind.i64.wrap ((k' : Int) - (a : Int)) = (b : Int) := by rw [IntWalk.i64_in _ (by omega)]; omega
            have d3 : IntKind.i64.wrap ((n : Int) - (a : Int)) = (c : Int) := by rw [IntWalk.i64_in _ (by omega)]; omega
            have d4 : b < s.size := by omega
            have d5 : c < R.size := by omega
            have d6 : (b : Int) < (s.size : Int) := by omega
            have d7 : (c : Int) < (R.size : Int) := by omega
            have d8 : (0 : Int) ≤ (b : Int) := by omega
            have d9 : (0 : Int) ≤ (c : Int) := by omega
            have HB0 := Lib.hid hb0; have HC0 := Lib.hid hc0; have HSZ := Lib.hid hsz
            clear hsz hkn hb0 hc0
            by_cases e : s[b] = R[c]
            · have e1 : ((s[b].toNat : Int) != (R[c].toNat : Int)) = false := by rw [e]; simp
              have HE := Lib.hid e
              clear e
              go_wp2_with fail
              go_region
              go_wp2_with fail
              go_roundw
              case rel =>
                have hs1 := HSZ.out; have hk1 := HKN.out; have hb1 := HB0.out; have hc1 := HC0.out
                refine ⟨a + 1, by omega, by omega, by go_num, fun i hi => ?_, HBX.out.drew⟩
                by_cases hia : i < a
                · exact HAL.out i hia
                · obtain rfl : i = a := by omega
                  rw [hb1, hc1, Opt.getD_at s b d4, Opt.getD_at R c d5, HE.out]
              case measure => have hs1 := HSZ.out; simp [intOf]; omega
            · have e1 : ((s[b].toNat : Int) != (R[c].toNat : Int)) = true := by
                simp; intro h; exact e (UInt8.toNat_inj.1 (by omega))
              have HE := Lib.hid e
              clear e
              go_wp2_with fail
              go_region
              go_wp2_with fail
              go_step3
              refine ⟨rfl, ?_⟩
              have hcu := fun w => Tryd.bytealg_Cutover ((k' : Int) + 1) (by omega) (by omega) w
              have hcn : m + 1 ≤ (s.data.toList.take (k' + 1)).count cl := Opt.count_on HM2.out HKK.out hlt' HCC.out
              have hcn2 : m + 1 ≤ 2 := Nat.le_trans hcn (Nat.le_trans (List.Sublist.count_le _ (List.take_sublist _ _)) HC2.out)
              obtain ⟨cu, hcv⟩ : ∃ cu, ((k' : Int) + 1 + 16) / 8 = cu := ⟨_, rfl⟩
              have f1 : ¬ (cu < (m : Int) + 1) := by omega
              rw [hcv] at hcu
              have HCN := Lib.hid hcn; have HCU := Lib.hid hcu
              have f2 : (m : Int) + 1 ≤ 2 := by omega
              have f3 : (k' : Int) + 1 ≤ 1000 := by omega
              clear hcn hcu hcn2 hcv
              go_wp2_with fail
              refine (HCU.out _).mono ?_
              rintro e w2 ⟨rfl, rfl⟩
              clear f2 f3
              simp only []
              iterate 8 go_step
              rw [show decide (cu < (m : Int) + 1) = false from decide_eq_false (by omega)]
              go_wp2_with fail
              simp only [Exit.noGoto_normal]
              refine ⟨?_, ?measure⟩
              iterate 90 (try apply Exists.intro)
              refine ⟨?rel, rfl⟩
              case rel =>
                have hs1 := HSZ.out; have hk1 := HKN.out; have hb1 := HB0.out; have hc1 := HC0.out; have hkk := HKK.out
                refine ⟨k' + 1, m + 1, by omega, by omega, by go_num, by go_num, HCN.out, fun p hp hat => ?_, HBX.out.drew⟩
                obtain ⟨q1, q2⟩ := HM.out p hat
                by_cases q3 : p + n < k
                · exact HNO.out p q3 hat
                · by_cases q4 : p + n < k'
                  · exact HBT.out (p + n) (by omega) q4 q2
                  · have h1 := hat.2 (n - a) (by rw [Opt.size_len]; omega)
                    rw [show p + (n - a) = b by omega, hc1, Opt.getD_at s b d4, Opt.getD_at R c d5] at h1
                    exact HE.out h1
              case measure => have hkk := HKK.out; simp [intOf]; omega
          · have hsz := HN.out
            obtain rfl : a = n + 1 := by omega
            have d1 : ¬ (((n + 1 : Nat) : Int) < (R.size : Int)) := by omega
            have HSZ := Lib.hid hsz
            clear hsz
            obtain ⟨z, hz⟩ : ∃ z : Nat, k' = z + n := ⟨k' - n, by have := HKN.out; omega⟩
            have d2 : IntKind.i64.wrap ((k' : Int) - (n : Int)) = (z : Int) := by rw [IntWalk.i64_in _ (by omega)]; omega
            have d4 : (((n + 1 : Nat) : Int)) = (n : Int) + 1 := by omega
            rw [d4] at d1 ⊢
            clear d4
            have HZ := Lib.hid hz
            clear hz
            go_wp2_with fail
            simp only [Exit.noGoto_ret]
            go_ret
            have hz := HZ.out
            refine ⟨z, rfl, ⟨fun _ => ⟨z, by rw [Opt.size_len, Opt.size_len, HSZ.out]; omega, fun j hj => ?_⟩, fun _ => by omega⟩, HBX.out⟩
            rw [Opt.size_len, HSZ.out] at hj
            have h1 := HAL.out (n - j) (by omega)
            rwa [show k' - (n - j) = z + j by omega, show n - (n - j) = j by omega] at h1
    · have c1 : ¬ ((k : Int) < (s.size : Int)) := by omega
      go_wp2_with fail
      go_ret
      refine ⟨-1, rfl, ⟨fun h => absurd h (by decide), fun ⟨p, hp⟩ => ?_⟩, HB.out⟩
      have := (HM.out p hp).1
      exact absurd hp (HNO.out p (by omega))
end Go.Proofs.YtdejgomljelnlaaDoor
