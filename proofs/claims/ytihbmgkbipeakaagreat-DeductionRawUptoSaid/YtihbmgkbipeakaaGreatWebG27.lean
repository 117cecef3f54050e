/- Several texts in one: WebRm, WebRn, WebRo. -/
import Derived.Test.YtihbmgkbipeakaaGreatWebG26
import Derived.Test.YtihbmgkbipeakaaGreatWebG25
namespace Go.Proofs.YtihbmgkbipeakaaGreat
open Go.RowKit

/-- Does a power of the list serve. -/
def rpow1 (L : List T) (t p : T) : Bool := decide (p.kind = 7) && match withoutL t.kids p.kids with
  | none => false
  | some r => r.all (hasL L)
theorem rpow_eq (L : List T) (t : T) : rpowL L t = (L.any (rpow1 L t) || t.kids.all (hasL L)) := rfl
theorem rpow_any {L : List T} {t : T} {j : Nat} (h : j < L.length) (h1 : rpow1 L t L[j] = true) : rpowL L t = true := by
  rw [rpow_eq, Bool.or_eq_true]
  exact .inl (List.any_eq_true.2 ⟨_, List.getElem_mem h, h1⟩)
theorem rpow_none {L : List T} {t : T} (h : ∀ i (hi : i < L.length), rpow1 L t L[i] = false) (h' : t.kids.all (hasL L) = false) : rpowL L t = false := by
  rw [rpow_eq, h', Bool.or_false, List.any_eq_false]
  intro x hx
  obtain ⟨i, hi, rfl⟩ := List.getElem_of_mem hx
  rw [h i hi]; decide
theorem all_take {p : T → Bool} {R : List T} {k : Nat} (h : k < R.length) : (R.take (k + 1)).all p = ((R.take k).all p && p R[k]) := by
  rw [List.take_succ_eq_append_getElem h, List.all_append]
  simp
theorem all_false {p : T → Bool} {R : List T} {k : Nat} (h : (R.take k).all p = false) : R.all p = false := by
  cases hh : R.all p with
  | false => rfl
  | true =>
    rw [List.all_eq_true] at hh
    have : (R.take k).all p = true := List.all_eq_true.2 fun x hx => hh x (List.mem_of_mem_take hx)
    rw [this] at h; cases h
theorem TermAt.kids_known {w : World} {t : T} {A : Option Addr} {c : Nat} (h : TermAt w (.agg #[.int .i64 t.kind, .string t.name, .slice A t.kids.length c]) t) : KnownAt w A c t.kids := by
  obtain ⟨A', c', U, e, h1, h2, h3, h4⟩ := TermAt.inv h
  injection e with e; injection e with e; injection e with _ e; injection e with _ e; injection e with e _
  injection e with e1 _ e3
  subst e1; subst e3
  exact TermAt.mk 0 ⟨#[]⟩ A c t.kids U (by decide) (by decide) h1 h2 h3 h4
theorem kids_bulk {t : T} (hb : t.bulk ≤ 1048576) : ∀ x ∈ t.kids, x.bulk ≤ 1048576 := fun x hx => by
  obtain ⟨i, hi, rfl⟩ := List.getElem_of_mem hx
  have := T.bulk_at t.kids i hi
  have := t.bulk_eq
  omega
theorem kids_len {t : T} (hb : t.bulk ≤ 1048576) : t.kids.length ≤ 1048576 := by
  have := T.len_le t.kids; have := t.bulk_eq; omega

set_option maxRecDepth 100000 in
set_option maxHeartbeats 8000000 in
theorem rpower {L : List T} {A : Option Addr} {cap : Nat} {t : T} {v : Value} (w : World) (h : KnownAt w A cap L) (hT : TermAt w v t) (hb : ∀ x ∈ L, x.bulk ≤ 1048576) (hbt : t.bulk ≤ 1048576) (hlen : L.length ≤ 1073741824) :
    Calls Tryz.prog 93 #[.slice A L.length cap, v] w fun e w' => e = .returned (.bool (rpowL L t)) ∧ Below w.heap.size w w' := by
  obtain ⟨At, ct, rfl⟩ := hT.inAll.view
  have hw := below_alloc1 w (.cells #[.int .i64 t.kind, .string t.name, .slice At t.kids.length ct] 29)
  have bx := Box.new w (.int .i64 t.kind) (.string t.name) (.slice At t.kids.length ct)
  have HK := Lib.hid (h.later hw); have HT := Lib.hid ((TermAt.kids_known hT).later hw); have HW := Lib.hid hw; have HBK := Lib.hid hb
  have HTB := Lib.hid (kids_bulk hbt)
  have hkl := kids_len hbt
  have hcap := h.cap_le
  unfold maxLen at hcap
  have HHAS := Lib.hid (fun W x v' (h1 : KnownAt W A cap L) (h2 : TermAt W v' x) (h3 : x.bulk ≤ 1048576) => rhasT W h1 h2 hb h3)
  clear h hT hw hb
  go_enter Tryz.func93, Tryz.ntmps93
  go_upto_region 1 with fail
  generalize w.alloc (.cells #[.int .i64 t.kind, .string t.name, .slice At t.kids.length ct] 29) = w1 at bx HK HT HW ⊢
  have BX := Lib.hid bx
  clear bx
  obtain ⟨nk, hnk⟩ : ∃ nk, t.kids.length = nk := ⟨_, rfl⟩
  have HNK := Lib.hid hnk
  rw [hnk] at BX
  clear hnk
  go_upto_region 2 with fail
  go_loopw [5] (fun s5 wr => ∃ j : Nat, j ≤ L.length + 1 ∧ s5 = .int .i64 j ∧ (∀ i (hi : i < L.length), i < j → rpow1 L t L[i] = false) ∧ (j = L.length + 1 → t.kids.all (hasL L) = false) ∧ Below w1.heap.size w1 wr) (fun s5 _ => L.length + 1 - (intOf s5).toNat)
  case atStart => exact ⟨0, Nat.zero_le _, rfl, fun i _ h => absurd h (by omega), fun h => absurd h (by omega), Below.refl _ _⟩
  case round =>
    obtain ⟨j, hj, rfl, hz, hl, hbw⟩ := hrel
    obtain ⟨wo, rfl⟩ : ∃ wo : World, wo = wr := ⟨_, rfl⟩
    have HZ := Lib.hid hz; have HL := Lib.hid hl; have HBW := Lib.hid hbw
    have HKr := Lib.hid (HK.out.later hbw); have HTr := Lib.hid (HT.out.later hbw)
    obtain ⟨x0, x1, x2⟩ := (BX.out.later hbw).cells
    clear hz hl hbw
    by_cases hle : j ≤ L.length
    · have hji : (0 : Int) ≤ (j : Int) ∧ (j : Int) ≤ (L.length : Int) := by omega
      obtain ⟨hji1, hji2⟩ := hji
      have HLE := Lib.hid hle
      by_cases hlt : j < L.length
      · have hlt' : (j : Int) < (L.length : Int) := by omega
        obtain ⟨b, off, A1, c1, rfl, d0, d1, d2, hu⟩ := HKr.out.get hlt
        have HLT := Lib.hid hlt
        have HREL := Lib.hid (show rpow1 L t (L[j]'(hlt)) = false → ∀ W, Below wo.heap.size wo W → (∀ i (hi : i < L.length), i < j + 1 → rpow1 L t L[i] = false) ∧ (j + 1 = L.length + 1 → t.kids.all (hasL L) = false) ∧ Below w1.heap.size w1 W from fun h1 W hbW => ⟨fun i hi hij => by
          by_cases e : i = j
          · subst e; exact h1
          · exact HZ.out i hi (by omega), fun e => by omega, HBW.out.trans (hbW.mono HBW.out.size)⟩)
        have HYES1 := Lib.hid (show rpow1 L t (L[j]'(hlt)) = true → rpowL L t = true from rpow_any hlt)
        have hbx := HBK.out (L[j]'(hlt)) (List.getElem_mem hlt)
        generalize L[j]'(hlt) = y at d0 d1 d2 hu hbx HREL HYES1
        have HU := Lib.hid hu.kids_known
        by_cases h7 : y.kind = 7
        · have h7' : ((y.kind : Int) == 7) = true := beq_iff_eq.2 h7
          obtain ⟨ny, hny⟩ : ∃ ny, y.kids.length = ny := ⟨_, rfl⟩
          have HWO := Lib.hid (fun W (h1 : KnownAt W At ct t.kids) (h2 : KnownAt W A1 c1 y.kids) => rwithout W h1 h2 HTB.out (kids_bulk hbx) (by omega))
          have HU' := HU
          rw [HNK.out, hny] at HWO
          rw [h7] at d0
          rw [hny] at d2
          have hx2 := x2
          have hp1 : rpow1 L t y = match withoutL t.kids y.kids with
            | none => false
            | some r => r.all (hasL L) := by unfold rpow1; rw [decide_eq_true h7, Bool.true_and]
          rw [hp1] at HREL HYES1
          clear hp1 hu h7 h7' hx2
          cases hwo : withoutL t.kids y.kids with
          | none =>
            rw [hwo] at HWO HREL
            replace HREL := Lib.hid (HREL.out rfl)
            clear hwo HYES1
            go_upto_region 8 with fail
            (refine wp_region_held_drew (S := (fun Wq => Wq.cell? ⟨w.heap.size, 2, none⟩ = some (.slice At nk ct) ∧ Wq.cell? ⟨b, off + j * 3 + 2, none⟩ = some (.slice A1 ny c1) ∧ Below wo.heap.size wo Wq)) (by kernel_rfl) (show _ ∧ _ ∧ _ from ⟨x2, d2, (Below.refl _ wo).drew⟩) (fun hHeld => ?_))
            ((first | (refine wpAnyH_take (i := 0) (v := ?_) (by simp only [List.getElem?_toArray, List.getElem?_cons_zero]; rfl) (by kernel_rfl) (by kernel_rfl) (by kernel_rfl) (by exact fun _ _ _ h => h) (Or.inl ⟨by rfl, ?_⟩) (by assumption) ?_; rotate_left 1; · (intro w hSw; (try dsimp only at hSw); go_simp; (try with_reducible rfl))) | (refine wpAnyH_take (i := 0) (v := undef) (by simp only [List.getElem?_toArray, List.getElem?_cons_zero]; rfl) (by kernel_rfl) (by kernel_rfl) (by kernel_rfl) (by exact fun _ _ _ h => h) (Or.inr ⟨by rfl, rfl⟩) (by assumption) ?_)); (try simp only [Act.put, List.setIfInBounds_toArray, List.set_cons_zero, List.set_cons_succ]))
            ((first | (refine wpAnyH_take (i := 1) (v := ?_) (by simp only [List.getElem?_toArray, List.getElem?_cons_succ, List.getElem?_cons_zero]; rfl) (by kernel_rfl) (by kernel_rfl) (by kernel_rfl) (by exact fun _ _ _ h => h) (Or.inl ⟨by rfl, ?_⟩) (by assumption) ?_; rotate_left 1; · (intro w hSw; (try dsimp only at hSw); go_simp; (try with_reducible rfl))) | (refine wpAnyH_take (i := 1) (v := undef) (by simp only [List.getElem?_toArray, List.getElem?_cons_succ, List.getElem?_cons_zero]; rfl) (by kernel_rfl) (by kernel_rfl) (by kernel_rfl) (by exact fun _ _ _ h => h) (Or.inr ⟨by rfl, rfl⟩) (by assumption) ?_)); (try simp only [Act.put, List.setIfInBounds_toArray, List.set_cons_zero, List.set_cons_succ]))
            ((first | (refine wpAnyH_take (i := 2) (v := ?_) (by simp only [List.getElem?_toArray, List.getElem?_cons_succ, List.getElem?_cons_zero]; rfl) (by kernel_rfl) (by kernel_rfl) (by kernel_rfl) (by exact fun _ _ _ h => h) (Or.inl ⟨by rfl, ?_⟩) (by assumption) ?_; rotate_left 1; · (intro w hSw; (try dsimp only at hSw); go_simp; (try with_reducible rfl))) | (refine wpAnyH_take (i := 2) (v := undef) (by simp only [List.getElem?_toArray, List.getElem?_cons_succ, List.getElem?_cons_zero]; rfl) (by kernel_rfl) (by kernel_rfl) (by kernel_rfl) (by exact fun _ _ _ h => h) (Or.inr ⟨by rfl, rfl⟩) (by assumption) ?_)); (try simp only [Act.put, List.setIfInBounds_toArray, List.set_cons_zero, List.set_cons_succ]))
            ((first | (refine wpAnyH_take (i := 3) (v := ?_) (by simp only [List.getElem?_toArray, List.getElem?_cons_succ, List.getElem?_cons_zero]; rfl) (by kernel_rfl) (by kernel_rfl) (by kernel_rfl) (by exact fun _ _ _ h => h) (Or.inl ⟨by rfl, ?_⟩) (by assumption) ?_; rotate_left 1; · (intro w hSw; (try dsimp only at hSw); go_simp; (try with_reducible rfl))) | (refine wpAnyH_take (i := 3) (v := undef) (by simp only [List.getElem?_toArray, List.getElem?_cons_succ, List.getElem?_cons_zero]; rfl) (by kernel_rfl) (by kernel_rfl) (by kernel_rfl) (by exact fun _ _ _ h => h) (Or.inr ⟨by rfl, rfl⟩) (by assumption) ?_)); (try simp only [Act.put, List.setIfInBounds_toArray, List.set_cons_zero, List.set_cons_succ]))
            ((first | (refine wpAnyH_take (i := 4) (v := ?_) (by simp only [List.getElem?_toArray, List.getElem?_cons_succ, List.getElem?_cons_zero]; rfl) (by kernel_rfl) (by kernel_rfl) (by kernel_rfl) (by exact fun _ _ _ h => h) (Or.inl ⟨by rfl, ?_⟩) (by assumption) ?_; rotate_left 1; · (intro w hSw; (try dsimp only at hSw); go_simp; (try with_reducible rfl))) | (refine wpAnyH_take (i := 4) (v := undef) (by simp only [List.getElem?_toArray, List.getElem?_cons_succ, List.getElem?_cons_zero]; rfl) (by kernel_rfl) (by kernel_rfl) (by kernel_rfl) (by exact fun _ _ _ h => h) (Or.inr ⟨by rfl, rfl⟩) (by assumption) ?_)); (try simp only [Act.put, List.setIfInBounds_toArray, List.set_cons_zero, List.set_cons_succ]))
            ((first | (refine wpAnyH_take (i := 5) (v := ?_) (by simp only [List.getElem?_toArray, List.getElem?_cons_succ, List.getElem?_cons_zero]; rfl) (by kernel_rfl) (by kernel_rfl) (by kernel_rfl) (by exact fun _ _ _ h => h) (Or.inl ⟨by rfl, ?_⟩) (by assumption) ?_; rotate_left 1; · (intro w hSw; (try dsimp only at hSw); go_simp; (try with_reducible rfl))) | (refine wpAnyH_take (i := 5) (v := undef) (by simp only [List.getElem?_toArray, List.getElem?_cons_succ, List.getElem?_cons_zero]; rfl) (by kernel_rfl) (by kernel_rfl) (by kernel_rfl) (by exact fun _ _ _ h => h) (Or.inr ⟨by rfl, rfl⟩) (by assumption) ?_)); (try simp only [Act.put, List.setIfInBounds_toArray, List.set_cons_zero, List.set_cons_succ]))
            ((first | (refine wpAnyH_take (i := 6) (v := ?_) (by simp only [List.getElem?_toArray, List.getElem?_cons_succ, List.getElem?_cons_zero]; rfl) (by kernel_rfl) (by kernel_rfl) (by kernel_rfl) (by exact fun _ _ _ h => h) (Or.inl ⟨by rfl, ?_⟩) (by assumption) ?_; rotate_left 1; · (intro w hSw; (try dsimp only at hSw); go_simp; (try with_reducible rfl))) | (refine wpAnyH_take (i := 6) (v := undef) (by simp only [List.getElem?_toArray, List.getElem?_cons_succ, List.getElem?_cons_zero]; rfl) (by kernel_rfl) (by kernel_rfl) (by kernel_rfl) (by exact fun _ _ _ h => h) (Or.inr ⟨by rfl, rfl⟩) (by assumption) ?_)); (try simp only [Act.put, List.setIfInBounds_toArray, List.set_cons_zero, List.set_cons_succ]))
            (refine wpAnyH_ready (rs := [7]) (by kernel_rfl) (by simp) ?_; refine AllReadyH.cons (by simp only [List.getElem?_toArray, List.getElem?_cons_succ, List.getElem?_cons_zero]; rfl) (fun K hK => ?_) AllReadyH.nil; go_simp; go_at_call 127; refine (HWO.out _ (HTr.out.later hHeld.2.2) (HU.out.later hHeld.2.2)).mono ?_; rintro e wz ⟨hb4, rfl⟩; refine hK.out _ _ (⟨cell_later hb4 hHeld.1, cell_later hb4 hHeld.2.1, hHeld.2.2.trans (hb4.mono hHeld.2.2.size)⟩) (fun hHeld => ?_); clear hK K; (try simp only [Act.put, List.setIfInBounds_toArray, List.set_cons_zero, List.set_cons_succ]))
            ((first | (refine wpAnyH_take (i := 8) (v := ?_) (by simp only [List.getElem?_toArray, List.getElem?_cons_succ, List.getElem?_cons_zero]; rfl) (by kernel_rfl) (by kernel_rfl) (by kernel_rfl) (by exact fun _ _ _ h => h) (Or.inl ⟨by rfl, ?_⟩) (by assumption) ?_; rotate_left 1; · (intro w hSw; (try dsimp only at hSw); go_simp; (try with_reducible rfl))) | (refine wpAnyH_take (i := 8) (v := undef) (by simp only [List.getElem?_toArray, List.getElem?_cons_succ, List.getElem?_cons_zero]; rfl) (by kernel_rfl) (by kernel_rfl) (by kernel_rfl) (by exact fun _ _ _ h => h) (Or.inr ⟨by rfl, rfl⟩) (by assumption) ?_)); (try simp only [Act.put, List.setIfInBounds_toArray, List.set_cons_zero, List.set_cons_succ]))
            ((first | (refine wpAnyH_take (i := 9) (v := ?_) (by simp only [List.getElem?_toArray, List.getElem?_cons_succ, List.getElem?_cons_zero]; rfl) (by kernel_rfl) (by kernel_rfl) (by kernel_rfl) (by exact fun _ _ _ h => h) (Or.inl ⟨by rfl, ?_⟩) (by assumption) ?_; rotate_left 1; · (intro w hSw; (try dsimp only at hSw); go_simp; (try with_reducible rfl))) | (refine wpAnyH_take (i := 9) (v := undef) (by simp only [List.getElem?_toArray, List.getElem?_cons_succ, List.getElem?_cons_zero]; rfl) (by kernel_rfl) (by kernel_rfl) (by kernel_rfl) (by exact fun _ _ _ h => h) (Or.inr ⟨by rfl, rfl⟩) (by assumption) ?_)); (try simp only [Act.put, List.setIfInBounds_toArray, List.set_cons_zero, List.set_cons_succ]))
            ((first | (refine wpAnyH_take (i := 10) (v := ?_) (by simp only [List.getElem?_toArray, List.getElem?_cons_succ, List.getElem?_cons_zero]; rfl) (by kernel_rfl) (by kernel_rfl) (by kernel_rfl) (by exact fun _ _ _ h => h) (Or.inl ⟨by rfl, ?_⟩) (by assumption) ?_; rotate_left 1; · (intro w hSw; (try dsimp only at hSw); go_simp; (try with_reducible rfl))) | (refine wpAnyH_take (i := 10) (v := undef) (by simp only [List.getElem?_toArray, List.getElem?_cons_succ, List.getElem?_cons_zero]; rfl) (by kernel_rfl) (by kernel_rfl) (by kernel_rfl) (by exact fun _ _ _ h => h) (Or.inr ⟨by rfl, rfl⟩) (by assumption) ?_)); (try simp only [Act.put, List.setIfInBounds_toArray, List.set_cons_zero, List.set_cons_succ]))
            ((first | (refine wpAnyH_take (i := 11) (v := ?_) (by simp only [List.getElem?_toArray, List.getElem?_cons_succ, List.getElem?_cons_zero]; rfl) (by kernel_rfl) (by kernel_rfl) (by kernel_rfl) (by exact fun _ _ _ h => h) (Or.inl ⟨by rfl, ?_⟩) (by assumption) ?_; rotate_left 1; · (intro w hSw; (try dsimp only at hSw); go_simp; (try with_reducible rfl))) | (refine wpAnyH_take (i := 11) (v := undef) (by simp only [List.getElem?_toArray, List.getElem?_cons_succ, List.getElem?_cons_zero]; rfl) (by kernel_rfl) (by kernel_rfl) (by kernel_rfl) (by exact fun _ _ _ h => h) (Or.inr ⟨by rfl, rfl⟩) (by assumption) ?_)); (try simp only [Act.put, List.setIfInBounds_toArray, List.set_cons_zero, List.set_cons_succ]))
            ((first | (refine wpAnyH_take (i := 12) (v := ?_) (by simp only [List.getElem?_toArray, List.getElem?_cons_succ, List.getElem?_cons_zero]; rfl) (by kernel_rfl) (by kernel_rfl) (by kernel_rfl) (by exact fun _ _ _ h => h) (Or.inl ⟨by rfl, ?_⟩) (by assumption) ?_; rotate_left 1; · (intro w hSw; (try dsimp only at hSw); go_simp; (try with_reducible rfl))) | (refine wpAnyH_take (i := 12) (v := undef) (by simp only [List.getElem?_toArray, List.getElem?_cons_succ, List.getElem?_cons_zero]; rfl) (by kernel_rfl) (by kernel_rfl) (by kernel_rfl) (by exact fun _ _ _ h => h) (Or.inr ⟨by rfl, rfl⟩) (by assumption) ?_)); (try simp only [Act.put, List.setIfInBounds_toArray, List.set_cons_zero, List.set_cons_succ]))
            (refine wpAnyH_done (by kernel_rfl) ?_ _)
            have HBZ := Lib.hid hHeld.2.2
            go_upto_region 10 with fail
            go_loopw [8, 7] (fun s8 s7 wr => s8 = .int .i64 0 ∧ s7 = .bool false ∧ Below wz.heap.size wz wr) (fun s8 _ _ => 1)
            case atStart => exact ⟨rfl, rfl, Below.refl _ _⟩
            case round =>
              obtain ⟨rfl, rfl, hbr⟩ := hrel
              have HBR := Lib.hid hbr
              clear hbr
              go_wp2_with fail
              go_roundw
              case rel => exact ⟨j + 1, Nat.succ_le_succ HLE.out, by go_num, HREL.out _ (HBZ.out.trans (HBR.out.mono HBZ.out.size))⟩
              case measure => have := HLE.out; simp [intOf] <;> omega
          | some RL =>
            rw [hwo] at HWO HREL HYES1
            obtain ⟨nr, hnr⟩ : ∃ nr, RL.length = nr := ⟨_, rfl⟩
            have HNR := Lib.hid hnr.symm
            have hnrb : nr ≤ 1048576 := by have := (without_some hwo).length_eq; rw [List.length_append] at this; omega
            have HRB := Lib.hid (show ∀ x ∈ RL, x.bulk ≤ 1048576 from fun x hx => HTB.out x ((without_some hwo).mem_iff.2 (List.mem_append_right _ hx)))
            have HFALSE := Lib.hid (fun hf W hW => (show ∃ j' : Nat, j' ≤ L.length + 1 ∧ Value.int .i64 ((j : Int) + 1) = .int .i64 j' ∧ (∀ i (hi : i < L.length), i < j' → rpow1 L t L[i] = false) ∧ (j' = L.length + 1 → t.kids.all (hasL L) = false) ∧ Below w1.heap.size w1 W from ⟨j + 1, Nat.succ_le_succ hle, rfl, HREL.out hf W hW⟩))
            have HYES := HYES1
            clear hwo HYES1 HREL hny
            go_upto_region 8 with fail
            (refine wp_region_held_drew (S := (fun Wq => Wq.cell? ⟨w.heap.size, 2, none⟩ = some (.slice At nk ct) ∧ Wq.cell? ⟨b, off + j * 3 + 2, none⟩ = some (.slice A1 ny c1) ∧ Below wo.heap.size wo Wq)) (by kernel_rfl) (show _ ∧ _ ∧ _ from ⟨x2, d2, (Below.refl _ wo).drew⟩) (fun hHeld => ?_))
            ((first | (refine wpAnyH_take (i := 0) (v := ?_) (by simp only [List.getElem?_toArray, List.getElem?_cons_zero]; rfl) (by kernel_rfl) (by kernel_rfl) (by kernel_rfl) (by exact fun _ _ _ h => h) (Or.inl ⟨by rfl, ?_⟩) (by assumption) ?_; rotate_left 1; · (intro w hSw; (try dsimp only at hSw); go_simp; (try with_reducible rfl))) | (refine wpAnyH_take (i := 0) (v := undef) (by simp only [List.getElem?_toArray, List.getElem?_cons_zero]; rfl) (by kernel_rfl) (by kernel_rfl) (by kernel_rfl) (by exact fun _ _ _ h => h) (Or.inr ⟨by rfl, rfl⟩) (by assumption) ?_)); (try simp only [Act.put, List.setIfInBounds_toArray, List.set_cons_zero, List.set_cons_succ]))
            ((first | (refine wpAnyH_take (i := 1) (v := ?_) (by simp only [List.getElem?_toArray, List.getElem?_cons_succ, List.getElem?_cons_zero]; rfl) (by kernel_rfl) (by kernel_rfl) (by kernel_rfl) (by exact fun _ _ _ h => h) (Or.inl ⟨by rfl, ?_⟩) (by assumption) ?_; rotate_left 1; · (intro w hSw; (try dsimp only at hSw); go_simp; (try with_reducible rfl))) | (refine wpAnyH_take (i := 1) (v := undef) (by simp only [List.getElem?_toArray, List.getElem?_cons_succ, List.getElem?_cons_zero]; rfl) (by kernel_rfl) (by kernel_rfl) (by kernel_rfl) (by exact fun _ _ _ h => h) (Or.inr ⟨by rfl, rfl⟩) (by assumption) ?_)); (try simp only [Act.put, List.setIfInBounds_toArray, List.set_cons_zero, List.set_cons_succ]))
            ((first | (refine wpAnyH_take (i := 2) (v := ?_) (by simp only [List.getElem?_toArray, List.getElem?_cons_succ, List.getElem?_cons_zero]; rfl) (by kernel_rfl) (by kernel_rfl) (by kernel_rfl) (by exact fun _ _ _ h => h) (Or.inl ⟨by rfl, ?_⟩) (by assumption) ?_; rotate_left 1; · (intro w hSw; (try dsimp only at hSw); go_simp; (try with_reducible rfl))) | (refine wpAnyH_take (i := 2) (v := undef) (by simp only [List.getElem?_toArray, List.getElem?_cons_succ, List.getElem?_cons_zero]; rfl) (by kernel_rfl) (by kernel_rfl) (by kernel_rfl) (by exact fun _ _ _ h => h) (Or.inr ⟨by rfl, rfl⟩) (by assumption) ?_)); (try simp only [Act.put, List.setIfInBounds_toArray, List.set_cons_zero, List.set_cons_succ]))
            ((first | (refine wpAnyH_take (i := 3) (v := ?_) (by simp only [List.getElem?_toArray, List.getElem?_cons_succ, List.getElem?_cons_zero]; rfl) (by kernel_rfl) (by kernel_rfl) (by kernel_rfl) (by exact fun _ _ _ h => h) (Or.inl ⟨by rfl, ?_⟩) (by assumption) ?_; rotate_left 1; · (intro w hSw; (try dsimp only at hSw); go_simp; (try with_reducible rfl))) | (refine wpAnyH_take (i := 3) (v := undef) (by simp only [List.getElem?_toArray, List.getElem?_cons_succ, List.getElem?_cons_zero]; rfl) (by kernel_rfl) (by kernel_rfl) (by kernel_rfl) (by exact fun _ _ _ h => h) (Or.inr ⟨by rfl, rfl⟩) (by assumption) ?_)); (try simp only [Act.put, List.setIfInBounds_toArray, List.set_cons_zero, List.set_cons_succ]))
            ((first | (refine wpAnyH_take (i := 4) (v := ?_) (by simp only [List.getElem?_toArray, List.getElem?_cons_succ, List.getElem?_cons_zero]; rfl) (by kernel_rfl) (by kernel_rfl) (by kernel_rfl) (by exact fun _ _ _ h => h) (Or.inl ⟨by rfl, ?_⟩) (by assumption) ?_; rotate_left 1; · (intro w hSw; (try dsimp only at hSw); go_simp; (try with_reducible rfl))) | (refine wpAnyH_take (i := 4) (v := undef) (by simp only [List.getElem?_toArray, List.getElem?_cons_succ, List.getElem?_cons_zero]; rfl) (by kernel_rfl) (by kernel_rfl) (by kernel_rfl) (by exact fun _ _ _ h => h) (Or.inr ⟨by rfl, rfl⟩) (by assumption) ?_)); (try simp only [Act.put, List.setIfInBounds_toArray, List.set_cons_zero, List.set_cons_succ]))
            ((first | (refine wpAnyH_take (i := 5) (v := ?_) (by simp only [List.getElem?_toArray, List.getElem?_cons_succ, List.getElem?_cons_zero]; rfl) (by kernel_rfl) (by kernel_rfl) (by kernel_rfl) (by exact fun _ _ _ h => h) (Or.inl ⟨by rfl, ?_⟩) (by assumption) ?_; rotate_left 1; · (intro w hSw; (try dsimp only at hSw); go_simp; (try with_reducible rfl))) | (refine wpAnyH_take (i := 5) (v := undef) (by simp only [List.getElem?_toArray, List.getElem?_cons_succ, List.getElem?_cons_zero]; rfl) (by kernel_rfl) (by kernel_rfl) (by kernel_rfl) (by exact fun _ _ _ h => h) (Or.inr ⟨by rfl, rfl⟩) (by assumption) ?_)); (try simp only [Act.put, List.setIfInBounds_toArray, List.set_cons_zero, List.set_cons_succ]))
            ((first | (refine wpAnyH_take (i := 6) (v := ?_) (by simp only [List.getElem?_toArray, List.getElem?_cons_succ, List.getElem?_cons_zero]; rfl) (by kernel_rfl) (by kernel_rfl) (by kernel_rfl) (by exact fun _ _ _ h => h) (Or.inl ⟨by rfl, ?_⟩) (by assumption) ?_; rotate_left 1; · (intro w hSw; (try dsimp only at hSw); go_simp; (try with_reducible rfl))) | (refine wpAnyH_take (i := 6) (v := undef) (by simp only [List.getElem?_toArray, List.getElem?_cons_succ, List.getElem?_cons_zero]; rfl) (by kernel_rfl) (by kernel_rfl) (by kernel_rfl) (by exact fun _ _ _ h => h) (Or.inr ⟨by rfl, rfl⟩) (by assumption) ?_)); (try simp only [Act.put, List.setIfInBounds_toArray, List.set_cons_zero, List.set_cons_succ]))
            (refine wpAnyH_ready (rs := [7]) (by kernel_rfl) (by simp) ?_; refine AllReadyH.cons (by simp only [List.getElem?_toArray, List.getElem?_cons_succ, List.getElem?_cons_zero]; rfl) (fun K hK => ?_) AllReadyH.nil; go_simp; go_at_call 127; refine (HWO.out _ (HTr.out.later hHeld.2.2) (HU.out.later hHeld.2.2)).mono ?_; rintro e wz ⟨hb4, A6, c6, rfl, hk6⟩; refine hK.out _ _ (⟨cell_later hb4 hHeld.1, cell_later hb4 hHeld.2.1, hHeld.2.2.trans (hb4.mono hHeld.2.2.size)⟩) (fun hHeld => ?_); clear hK K; (try simp only [Act.put, List.setIfInBounds_toArray, List.set_cons_zero, List.set_cons_succ]))
            ((first | (refine wpAnyH_take (i := 8) (v := ?_) (by simp only [List.getElem?_toArray, List.getElem?_cons_succ, List.getElem?_cons_zero]; rfl) (by kernel_rfl) (by kernel_rfl) (by kernel_rfl) (by exact fun _ _ _ h => h) (Or.inl ⟨by rfl, ?_⟩) (by assumption) ?_; rotate_left 1; · (intro w hSw; (try dsimp only at hSw); go_simp; (try with_reducible rfl))) | (refine wpAnyH_take (i := 8) (v := undef) (by simp only [List.getElem?_toArray, List.getElem?_cons_succ, List.getElem?_cons_zero]; rfl) (by kernel_rfl) (by kernel_rfl) (by kernel_rfl) (by exact fun _ _ _ h => h) (Or.inr ⟨by rfl, rfl⟩) (by assumption) ?_)); (try simp only [Act.put, List.setIfInBounds_toArray, List.set_cons_zero, List.set_cons_succ]))
            ((first | (refine wpAnyH_take (i := 9) (v := ?_) (by simp only [List.getElem?_toArray, List.getElem?_cons_succ, List.getElem?_cons_zero]; rfl) (by kernel_rfl) (by kernel_rfl) (by kernel_rfl) (by exact fun _ _ _ h => h) (Or.inl ⟨by rfl, ?_⟩) (by assumption) ?_; rotate_left 1; · (intro w hSw; (try dsimp only at hSw); go_simp; (try with_reducible rfl))) | (refine wpAnyH_take (i := 9) (v := undef) (by simp only [List.getElem?_toArray, List.getElem?_cons_succ, List.getElem?_cons_zero]; rfl) (by kernel_rfl) (by kernel_rfl) (by kernel_rfl) (by exact fun _ _ _ h => h) (Or.inr ⟨by rfl, rfl⟩) (by assumption) ?_)); (try simp only [Act.put, List.setIfInBounds_toArray, List.set_cons_zero, List.set_cons_succ]))
            ((first | (refine wpAnyH_take (i := 10) (v := ?_) (by simp only [List.getElem?_toArray, List.getElem?_cons_succ, List.getElem?_cons_zero]; rfl) (by kernel_rfl) (by kernel_rfl) (by kernel_rfl) (by exact fun _ _ _ h => h) (Or.inl ⟨by rfl, ?_⟩) (by assumption) ?_; rotate_left 1; · (intro w hSw; (try dsimp only at hSw); go_simp; (try with_reducible rfl))) | (refine wpAnyH_take (i := 10) (v := undef) (by simp only [List.getElem?_toArray, List.getElem?_cons_succ, List.getElem?_cons_zero]; rfl) (by kernel_rfl) (by kernel_rfl) (by kernel_rfl) (by exact fun _ _ _ h => h) (Or.inr ⟨by rfl, rfl⟩) (by assumption) ?_)); (try simp only [Act.put, List.setIfInBounds_toArray, List.set_cons_zero, List.set_cons_succ]))
            ((first | (refine wpAnyH_take (i := 11) (v := ?_) (by simp only [List.getElem?_toArray, List.getElem?_cons_succ, List.getElem?_cons_zero]; rfl) (by kernel_rfl) (by kernel_rfl) (by kernel_rfl) (by exact fun _ _ _ h => h) (Or.inl ⟨by rfl, ?_⟩) (by assumption) ?_; rotate_left 1; · (intro w hSw; (try dsimp only at hSw); go_simp; (try with_reducible rfl))) | (refine wpAnyH_take (i := 11) (v := undef) (by simp only [List.getElem?_toArray, List.getElem?_cons_succ, List.getElem?_cons_zero]; rfl) (by kernel_rfl) (by kernel_rfl) (by kernel_rfl) (by exact fun _ _ _ h => h) (Or.inr ⟨by rfl, rfl⟩) (by assumption) ?_)); (try simp only [Act.put, List.setIfInBounds_toArray, List.set_cons_zero, List.set_cons_succ]))
            ((first | (refine wpAnyH_take (i := 12) (v := ?_) (by simp only [List.getElem?_toArray, List.getElem?_cons_succ, List.getElem?_cons_zero]; rfl) (by kernel_rfl) (by kernel_rfl) (by kernel_rfl) (by exact fun _ _ _ h => h) (Or.inl ⟨by rfl, ?_⟩) (by assumption) ?_; rotate_left 1; · (intro w hSw; (try dsimp only at hSw); go_simp; (try with_reducible rfl))) | (refine wpAnyH_take (i := 12) (v := undef) (by simp only [List.getElem?_toArray, List.getElem?_cons_succ, List.getElem?_cons_zero]; rfl) (by kernel_rfl) (by kernel_rfl) (by kernel_rfl) (by exact fun _ _ _ h => h) (Or.inr ⟨by rfl, rfl⟩) (by assumption) ?_)); (try simp only [Act.put, List.setIfInBounds_toArray, List.set_cons_zero, List.set_cons_succ]))
            (refine wpAnyH_done (by kernel_rfl) ?_ _)
            have HBZ := Lib.hid hHeld.2.2; have HRL := Lib.hid hk6
            clear hk6
            rw [hnr]
            clear hnr
            go_upto_region 10 with fail
            go_loopw [8, 7] (fun s8 s7 wr => ∃ (k : Nat) (q : Bool), k ≤ nr ∧ s8 = .int .i64 k ∧ s7 = .bool q ∧ q = (RL.take k).all (hasL L) ∧ Below wz.heap.size wz wr) (fun s8 _ _ => nr - (intOf s8).toNat)
            case atStart => exact ⟨0, true, Nat.zero_le _, rfl, rfl, rfl, Below.refl _ _⟩
            case round =>
              obtain ⟨k, q, hk, rfl, rfl, hq, hbr⟩ := hrel
              have HQ := Lib.hid hq; have HBR := Lib.hid hbr
              cases q with
              | false =>
                have HAF := Lib.hid (HFALSE.out (all_false hq.symm))
                clear hq hbr
                by_cases hkn : k < nr
                · have hkn' : (k : Int) < (nr : Int) := by omega
                  go_wp2_with fail
                  go_roundw
                  case rel => exact HAF.out _ (HBZ.out.trans (HBR.out.mono HBZ.out.size))
                  case measure => have := HLE.out; simp [intOf] <;> omega
                · have hkn' : ¬ (k : Int) < (nr : Int) := by omega
                  go_wp2_with fail
                  go_roundw
                  case rel => exact HAF.out _ (HBZ.out.trans (HBR.out.mono HBZ.out.size))
                  case measure => have := HLE.out; simp [intOf] <;> omega
              | true =>
                by_cases hkn : k < nr
                · have hki : (0 : Int) ≤ (k : Int) ∧ (k : Int) < (nr : Int) := by omega
                  obtain ⟨hki1, hki2⟩ := hki
                  have hkr : k < RL.length := by have := HNR.out; omega
                  obtain ⟨b2, off2, A2, c2, hA2, e0, e1, e2, hu2⟩ := (HRL.out.later hbr).get hkr
                  have hat := all_take (p := hasL L) hkr
                  rw [← hq, Bool.true_and] at hat
                  have hyb := HRB.out _ (List.getElem_mem hkr)
                  generalize RL[k]'(hkr) = y at e0 e1 e2 hu2 hat hyb
                  have HAT := Lib.hid hat; have HU2 := Lib.hid hu2; have HKN := Lib.hid hkn
                  have HKz := Lib.hid (HKr.out.later (HBZ.out.trans (hbr.mono HBZ.out.size)))
                  clear hq hbr hat hu2 hkn hkr
                  subst hA2
                  go_wp2_with fail
                  refine (HHAS.out _ y _ HKz.out HU2.out hyb).mono ?_; rintro e w5 ⟨rfl, hb5⟩
                  have HB5 := Lib.hid (HBR.out.trans (hb5.mono HBR.out.size))
                  clear hb5
                  go_wp2_with fail
                  go_roundw
                  case rel => exact ⟨k + 1, _, HKN.out, by go_num, rfl, HAT.out.symm, HB5.out⟩
                  case measure => have := HKN.out; simp [intOf] <;> omega
                · obtain rfl : k = nr := by omega
                  have HTRUE := Lib.hid (show RL.all (hasL L) = true by
                    have := HQ.out
                    rw [HNR.out, List.take_length] at this
                    exact this.symm)
                  clear hq hbr
                  go_wp2_with fail
                  go_ret
                  exact ⟨ret_bool (HYES.out HTRUE.out).symm, HW.out.trans (((HBW.out.trans (HBZ.out.mono HBW.out.size)).trans (HBR.out.mono (Nat.le_trans HBW.out.size HBZ.out.size))).mono HW.out.size)⟩
        · have h7' : ((y.kind : Int) == 7) = false := beq_eq_false_iff_ne.2 h7
          have HREL2 := Lib.hid (HREL.out (by unfold rpow1; rw [decide_eq_false h7]; rfl))
          clear HREL HYES1 hu
          go_wp2_with fail
          go_roundw
          case rel => exact ⟨j + 1, Nat.succ_le_succ HLE.out, by go_num, HREL2.out _ (Below.refl _ _)⟩
          case measure => have := HLE.out; simp [intOf] <;> omega
      · obtain rfl : j = L.length := by omega
        have HFALSE := Lib.hid (fun (hf : t.kids.all (hasL L) = false) W (hW : Below wo.heap.size wo W) => (show ∃ j' : Nat, j' ≤ L.length + 1 ∧ Value.int .i64 ((L.length : Int) + 1) = .int .i64 j' ∧ (∀ i (hi : i < L.length), i < j' → rpow1 L t L[i] = false) ∧ (j' = L.length + 1 → t.kids.all (hasL L) = false) ∧ Below w1.heap.size w1 W from ⟨L.length + 1, Nat.le_refl _, rfl, fun i hi _ => HZ.out i hi hi, fun _ => hf, HBW.out.trans (hW.mono HBW.out.size)⟩))
        have HYES := Lib.hid (show t.kids.all (hasL L) = true → rpowL L t = true from fun h => by rw [rpow_eq, h, Bool.or_true])
        have HNR := Lib.hid HNK.out.symm
        have hnrb : nk ≤ 1048576 := by have := HNK.out; omega
        have HRB := HTB
        have HRL := HTr
        have HBZ := Lib.hid (Below.refl wo.heap.size wo)
        clear hlt
        go_upto_region 10 with fail
        go_loopw [8, 7] (fun s8 s7 wr => ∃ (k : Nat) (q : Bool), k ≤ nk ∧ s8 = .int .i64 k ∧ s7 = .bool q ∧ q = (t.kids.take k).all (hasL L) ∧ Below wo.heap.size wo wr) (fun s8 _ _ => nk - (intOf s8).toNat)
        case atStart => exact ⟨0, true, Nat.zero_le _, rfl, rfl, rfl, Below.refl _ _⟩
        case round =>
          obtain ⟨k, q, hk, rfl, rfl, hq, hbr⟩ := hrel
          have HQ := Lib.hid hq; have HBR := Lib.hid hbr
          cases q with
          | false =>
            have HAF := Lib.hid (HFALSE.out (all_false hq.symm))
            clear hq hbr
            by_cases hkn : k < nk
            · have hkn' : (k : Int) < (nk : Int) := by omega
              go_wp2_with fail
              go_roundw
              case rel => exact HAF.out _ (HBZ.out.trans (HBR.out.mono HBZ.out.size))
              case measure => have := HLE.out; simp [intOf] <;> omega
            · have hkn' : ¬ (k : Int) < (nk : Int) := by omega
              go_wp2_with fail
              go_roundw
              case rel => exact HAF.out _ (HBZ.out.trans (HBR.out.mono HBZ.out.size))
              case measure => have := HLE.out; simp [intOf] <;> omega
          | true =>
            by_cases hkn : k < nk
            · have hki : (0 : Int) ≤ (k : Int) ∧ (k : Int) < (nk : Int) := by omega
              obtain ⟨hki1, hki2⟩ := hki
              have hkr : k < t.kids.length := by have := HNR.out; omega
              obtain ⟨b2, off2, A2, c2, hA2, e0, e1, e2, hu2⟩ := (HRL.out.later hbr).get hkr
              have hat := all_take (p := hasL L) hkr
              rw [← hq, Bool.true_and] at hat
              have hyb := HRB.out _ (List.getElem_mem hkr)
              generalize t.kids[k]'(hkr) = y at e0 e1 e2 hu2 hat hyb
              have HAT := Lib.hid hat; have HU2 := Lib.hid hu2; have HKN := Lib.hid hkn
              have HKz := Lib.hid (HKr.out.later (HBZ.out.trans (hbr.mono HBZ.out.size)))
              clear hq hbr hat hu2 hkn hkr
              subst hA2
              go_wp2_with fail
              refine (HHAS.out _ y _ HKz.out HU2.out hyb).mono ?_; rintro e w5 ⟨rfl, hb5⟩
              have HB5 := Lib.hid (HBR.out.trans (hb5.mono HBR.out.size))
              clear hb5
              go_wp2_with fail
              go_roundw
              case rel => exact ⟨k + 1, _, HKN.out, by go_num, rfl, HAT.out.symm, HB5.out⟩
              case measure => have := HKN.out; simp [intOf] <;> omega
            · obtain rfl : k = nk := by omega
              have HTRUE := Lib.hid (show t.kids.all (hasL L) = true by
                have := HQ.out
                rw [HNR.out, List.take_length] at this
                exact this.symm)
              clear hq hbr
              go_wp2_with fail
              go_ret
              exact ⟨ret_bool (HYES.out HTRUE.out).symm, HW.out.trans (((HBW.out.trans (HBZ.out.mono HBW.out.size)).trans (HBR.out.mono (Nat.le_trans HBW.out.size HBZ.out.size))).mono HW.out.size)⟩
    · obtain rfl : j = L.length + 1 := by omega
      have HNO := Lib.hid (rpow_none (fun i hi => HZ.out i hi (by omega)) (HL.out rfl))
      go_wp2_with fail
      go_ret
      exact ⟨ret_bool HNO.out.symm, HW.out.trans (HBW.out.mono HW.out.size)⟩
end Go.Proofs.YtihbmgkbipeakaaGreat

namespace Go.Proofs.YtihbmgkbipeakaaGreat
open Go.RowKit

theorem rbuild_kids {n : Nat} {L : List T} {t : T} (hh : hasL L t = false) (hk : t.kind = 3 ∨ t.kind = 5 ∨ t.kind = 6 ∨ t.kind = 4) : rbuild (n + 1) L t = t.kids.all (rbuild n L) := by
  simp only [rbuild, hh, Bool.false_or, if_pos hk]
theorem rbuild_seven {n : Nat} {L : List T} {t : T} (hh : hasL L t = false) (hk : t.kind = 7) : rbuild (n + 1) L t = rpowL L t := by
  simp only [rbuild, hh, Bool.false_or]
  rw [if_neg (by omega), if_pos hk]
theorem rbuild_else {n : Nat} {L : List T} {t : T} (hh : hasL L t = false) (h3 : t.kind ≠ 3) (h5 : t.kind ≠ 5) (h6 : t.kind ≠ 6) (h4 : t.kind ≠ 4) (h7 : t.kind ≠ 7) : rbuild (n + 1) L t = false := by
  simp only [rbuild, hh, Bool.false_or]
  rw [if_neg (by omega), if_neg h7]

set_option maxRecDepth 100000 in
set_option maxHeartbeats 8000000 in
theorem rbuildT {L : List T} {A : Option Addr} {cap : Nat} (hb : ∀ x ∈ L, x.bulk ≤ 1048576) (hlen : L.length ≤ 1073741824) : ∀ (n : Nat) (t : T) (v : Value) (w : World), t.bulk < n → KnownAt w A cap L → TermAt w v t → t.bulk ≤ 1048576 →
    Calls Tryz.prog 46 #[.slice A L.length cap, v] w fun e w' => e = .returned (.bool (rbuild n L t)) ∧ Below w.heap.size w w' := by
  intro n
  induction n with
  | zero => intro t v w h; omega
  | succ n ih =>
    intro t v w hN h hT hbt
    obtain ⟨At, ct, rfl⟩ := hT.inAll.view
    have hw := below_alloc1 w (.cells #[.int .i64 t.kind, .string t.name, .slice At t.kids.length ct] 29)
    have bx := Box.new w (.int .i64 t.kind) (.string t.name) (.slice At t.kids.length ct)
    have HK := Lib.hid (h.later hw); have HT := Lib.hid (hT.later hw); have HW := Lib.hid hw
    have HIH := Lib.hid (fun (x : T) v' W (hx : x ∈ t.kids) (h1 : KnownAt W A cap L) (h2 : TermAt W v' x) => ih x v' W (by
      obtain ⟨i, hi, rfl⟩ := List.getElem_of_mem hx
      have := T.bulk_at t.kids i hi; have := t.bulk_eq; omega) h1 h2 (kids_bulk hbt x hx))
    have hkl := kids_len hbt
    have hcap := h.cap_le
    unfold maxLen at hcap
    have HHAS := Lib.hid (fun W v' (h1 : KnownAt W A cap L) (h2 : TermAt W v' t) => rhasT W h1 h2 hb hbt)
    have HPOW := Lib.hid (fun W v' (h1 : KnownAt W A cap L) (h2 : TermAt W v' t) => rpower W h1 h2 hb hbt hlen)
    have HR3 := Lib.hid (fun (hh : hasL L t = false) hk => rbuild_kids (n := n) hh hk); have HR7 := Lib.hid (fun (hh : hasL L t = false) hk => rbuild_seven (n := n) hh hk)
    have HRE := Lib.hid (fun (hh : hasL L t = false) h3 h5 h6 h4 h7 => rbuild_else (n := n) hh h3 h5 h6 h4 h7)
    have HRT := Lib.hid (show hasL L t = true → rbuild (n + 1) L t = true from fun h => by simp only [rbuild, h, Bool.true_or])
    obtain ⟨R, hR⟩ : ∃ R, rbuild (n + 1) L t = R := ⟨_, rfl⟩
    rw [hR] at HR3 HR7 HRE HRT ⊢
    clear h hT hw ih hR hN
    go_enter Tryz.func46, Tryz.ntmps46
    go_upto_region 1 with fail
    generalize w.alloc (.cells #[.int .i64 t.kind, .string t.name, .slice At t.kids.length ct] 29) = w1 at bx HK HT HW ⊢
    obtain ⟨x0, x1, x2⟩ := bx.cells
    have BX := Lib.hid bx
    clear bx
    go_wp2_with fail
    refine (HHAS.out _ _ HK.out HT.out).mono ?_; rintro e w2 ⟨he, hb2⟩
    have HB2 := Lib.hid hb2
    clear hb2 x0 x1 x2 HHAS
    cases hq : hasL L t with
    | true =>
      rw [hq] at he; subst he
      replace HRT := Lib.hid (HRT.out hq)
      clear hq
      go_wp2_with fail
      go_ret
      exact ⟨ret_bool HRT.out.symm, HW.out.trans (HB2.out.mono HW.out.size)⟩
    | false =>
      rw [hq] at he; subst he
      replace HR3 := Lib.hid (HR3.out hq); replace HR7 := Lib.hid (HR7.out hq); replace HRE := Lib.hid (HRE.out hq)
      clear hq HRT
      have bx2 := BX.out.later HB2.out
      obtain ⟨x0, x1, x2⟩ := bx2.cells
      have BX2 := Lib.hid bx2
      obtain ⟨k, hk⟩ : ∃ k, t.kind = k := ⟨_, rfl⟩
      obtain ⟨nk, hnk⟩ : ∃ nk, t.kids.length = nk := ⟨_, rfl⟩
      have HNK := Lib.hid hnk; have HKK := Lib.hid hk
      rw [hk] at x0 HR3 HR7 HRE
      rw [hnk] at x2 hkl
      have HKD := Lib.hid (HT.out.kids_known.later HB2.out); have HK2 := Lib.hid (HK.out.later HB2.out)
      clear bx2 hk hnk x1
      by_cases h3 : k = 3
      · subst h3
        have HRK := Lib.hid (HR3.out (.inl rfl))
        clear HR3 HR7 HRE
        go_upto_region 9 with fail
        go_loopw [5] (fun s5 wr => ∃ j : Nat, j ≤ nk ∧ s5 = .int .i64 j ∧ (t.kids.take j).all (rbuild n L) = true ∧ Below w2.heap.size w2 wr) (fun s5 _ => nk - (intOf s5).toNat)
        case atStart => exact ⟨0, Nat.zero_le _, rfl, rfl, Below.refl _ _⟩
        case round =>
          obtain ⟨j, hj, rfl, hz, hbw⟩ := hrel
          have HZ := Lib.hid hz; have HBW := Lib.hid hbw
          obtain ⟨_, _, x2⟩ := (BX2.out.later hbw).cells
          rw [HNK.out] at x2
          clear hz
          by_cases hlt : j < nk
          · have hji : (0 : Int) ≤ (j : Int) ∧ (j : Int) < (nk : Int) := by omega
            obtain ⟨hji1, hji2⟩ := hji
            have hjl : j < t.kids.length := by have := HNK.out; omega
            obtain ⟨b2, off2, A2, c2, rfl, e0, e1, e2, hu2⟩ := (HKD.out.later hbw).get hjl
            have hat := all_take (p := rbuild n L) hjl
            rw [HZ.out, Bool.true_and] at hat
            have hym := List.getElem_mem hjl
            generalize t.kids[j]'(hjl) = y at e0 e1 e2 hu2 hat hym
            have HAT := Lib.hid hat; have HU2 := Lib.hid hu2; have HLT := Lib.hid hlt
            have HYM := Lib.hid hym
            have HKw := Lib.hid (HK2.out.later hbw)
            clear hat hu2 hlt hjl hbw hym
            go_wp2_with fail
            refine (HIH.out y _ _ HYM.out HKw.out HU2.out).mono ?_; rintro e w5 ⟨he, hb5⟩
            have HB5 := Lib.hid (HBW.out.trans (hb5.mono HBW.out.size))
            clear hb5 e0 e1 e2 x2
            cases hq : rbuild n L y with
            | true =>
              rw [hq] at he HAT; subst he
              clear hq
              go_wp2_with fail
              go_roundw
              case rel => exact ⟨j + 1, HLT.out, by go_num, HAT.out, HB5.out⟩
              case measure => have := HLT.out; simp [intOf]; omega
            | false =>
              rw [hq] at he HAT; subst he
              clear hq
              have HNO := Lib.hid (show R = false from HRK.out.trans (all_false HAT.out))
              go_wp2_with fail
              go_ret
              exact ⟨ret_bool HNO.out.symm, HW.out.trans ((HB2.out.trans (HB5.out.mono HB2.out.size)).mono HW.out.size)⟩
          · obtain rfl : j = nk := by omega
            have HYES := Lib.hid (show R = true by
              have := HZ.out
              rw [← HNK.out, List.take_length] at this
              exact HRK.out.trans this)
            clear hlt
            go_wp2_with fail
            go_ret
            exact ⟨ret_bool HYES.out.symm, HW.out.trans ((HB2.out.trans (HBW.out.mono HB2.out.size)).mono HW.out.size)⟩
      · by_cases h5 : k = 5
        · subst h5
          have HRK := Lib.hid (HR3.out (.inr (.inl rfl)))
          clear HR3 HR7 HRE h3
          go_upto_region 9 with fail
          go_loopw [5] (fun s5 wr => ∃ j : Nat, j ≤ nk ∧ s5 = .int .i64 j ∧ (t.kids.take j).all (rbuild n L) = true ∧ Below w2.heap.size w2 wr) (fun s5 _ => nk - (intOf s5).toNat)
          case atStart => exact ⟨0, Nat.zero_le _, rfl, rfl, Below.refl _ _⟩
          case round =>
            obtain ⟨j, hj, rfl, hz, hbw⟩ := hrel
            have HZ := Lib.hid hz; have HBW := Lib.hid hbw
            obtain ⟨_, _, x2⟩ := (BX2.out.later hbw).cells
            rw [HNK.out] at x2
            clear hz
            by_cases hlt : j < nk
            · have hji : (0 : Int) ≤ (j : Int) ∧ (j : Int) < (nk : Int) := by omega
              obtain ⟨hji1, hji2⟩ := hji
              have hjl : j < t.kids.length := by have := HNK.out; omega
              obtain ⟨b2, off2, A2, c2, rfl, e0, e1, e2, hu2⟩ := (HKD.out.later hbw).get hjl
              have hat := all_take (p := rbuild n L) hjl
              rw [HZ.out, Bool.true_and] at hat
              have hym := List.getElem_mem hjl
              generalize t.kids[j]'(hjl) = y at e0 e1 e2 hu2 hat hym
              have HAT := Lib.hid hat; have HU2 := Lib.hid hu2; have HLT := Lib.hid hlt
              have HYM := Lib.hid hym
              have HKw := Lib.hid (HK2.out.later hbw)
              clear hat hu2 hlt hjl hbw hym
              go_wp2_with fail
              refine (HIH.out y _ _ HYM.out HKw.out HU2.out).mono ?_; rintro e w5 ⟨he, hb5⟩
              have HB5 := Lib.hid (HBW.out.trans (hb5.mono HBW.out.size))
              clear hb5 e0 e1 e2 x2
              cases hq : rbuild n L y with
              | true =>
                rw [hq] at he HAT; subst he
                clear hq
                go_wp2_with fail
                go_roundw
                case rel => exact ⟨j + 1, HLT.out, by go_num, HAT.out, HB5.out⟩
                case measure => have := HLT.out; simp [intOf]; omega
              | false =>
                rw [hq] at he HAT; subst he
                clear hq
                have HNO := Lib.hid (show R = false from HRK.out.trans (all_false HAT.out))
                go_wp2_with fail
                go_ret
                exact ⟨ret_bool HNO.out.symm, HW.out.trans ((HB2.out.trans (HB5.out.mono HB2.out.size)).mono HW.out.size)⟩
            · obtain rfl : j = nk := by omega
              have HYES := Lib.hid (show R = true by
                have := HZ.out
                rw [← HNK.out, List.take_length] at this
                exact HRK.out.trans this)
              clear hlt
              go_wp2_with fail
              go_ret
              exact ⟨ret_bool HYES.out.symm, HW.out.trans ((HB2.out.trans (HBW.out.mono HB2.out.size)).mono HW.out.size)⟩
        · by_cases h6 : k = 6
          · subst h6
            have HRK := Lib.hid (HR3.out (.inr (.inr (.inl rfl))))
            clear HR3 HR7 HRE h3 h5
            go_upto_region 9 with fail
            go_loopw [5] (fun s5 wr => ∃ j : Nat, j ≤ nk ∧ s5 = .int .i64 j ∧ (t.kids.take j).all (rbuild n L) = true ∧ Below w2.heap.size w2 wr) (fun s5 _ => nk - (intOf s5).toNat)
            case atStart => exact ⟨0, Nat.zero_le _, rfl, rfl, Below.refl _ _⟩
            case round =>
              obtain ⟨j, hj, rfl, hz, hbw⟩ := hrel
              have HZ := Lib.hid hz; have HBW := Lib.hid hbw
              obtain ⟨_, _, x2⟩ := (BX2.out.later hbw).cells
              rw [HNK.out] at x2
              clear hz
              by_cases hlt : j < nk
              · have hji : (0 : Int) ≤ (j : Int) ∧ (j : Int) < (nk : Int) := by omega
                obtain ⟨hji1, hji2⟩ := hji
                have hjl : j < t.kids.length := by have := HNK.out; omega
                obtain ⟨b2, off2, A2, c2, rfl, e0, e1, e2, hu2⟩ := (HKD.out.later hbw).get hjl
                have hat := all_take (p := rbuild n L) hjl
                rw [HZ.out, Bool.true_and] at hat
                have hym := List.getElem_mem hjl
                generalize t.kids[j]'(hjl) = y at e0 e1 e2 hu2 hat hym
                have HAT := Lib.hid hat; have HU2 := Lib.hid hu2; have HLT := Lib.hid hlt
                have HYM := Lib.hid hym
                have HKw := Lib.hid (HK2.out.later hbw)
                clear hat hu2 hlt hjl hbw hym
                go_wp2_with fail
                refine (HIH.out y _ _ HYM.out HKw.out HU2.out).mono ?_; rintro e w5 ⟨he, hb5⟩
                have HB5 := Lib.hid (HBW.out.trans (hb5.mono HBW.out.size))
                clear hb5 e0 e1 e2 x2
                cases hq : rbuild n L y with
                | true =>
                  rw [hq] at he HAT; subst he
                  clear hq
                  go_wp2_with fail
                  go_roundw
                  case rel => exact ⟨j + 1, HLT.out, by go_num, HAT.out, HB5.out⟩
                  case measure => have := HLT.out; simp [intOf]; omega
                | false =>
                  rw [hq] at he HAT; subst he
                  clear hq
                  have HNO := Lib.hid (show R = false from HRK.out.trans (all_false HAT.out))
                  go_wp2_with fail
                  go_ret
                  exact ⟨ret_bool HNO.out.symm, HW.out.trans ((HB2.out.trans (HB5.out.mono HB2.out.size)).mono HW.out.size)⟩
              · obtain rfl : j = nk := by omega
                have HYES := Lib.hid (show R = true by
                  have := HZ.out
                  rw [← HNK.out, List.take_length] at this
                  exact HRK.out.trans this)
                clear hlt
                go_wp2_with fail
                go_ret
                exact ⟨ret_bool HYES.out.symm, HW.out.trans ((HB2.out.trans (HBW.out.mono HB2.out.size)).mono HW.out.size)⟩
          · by_cases h4 : k = 4
            · subst h4
              have HRK := Lib.hid (HR3.out (.inr (.inr (.inr rfl))))
              clear HR3 HR7 HRE h3 h5 h6
              go_upto_region 9 with fail
              go_loopw [5] (fun s5 wr => ∃ j : Nat, j ≤ nk ∧ s5 = .int .i64 j ∧ (t.kids.take j).all (rbuild n L) = true ∧ Below w2.heap.size w2 wr) (fun s5 _ => nk - (intOf s5).toNat)
              case atStart => exact ⟨0, Nat.zero_le _, rfl, rfl, Below.refl _ _⟩
              case round =>
                obtain ⟨j, hj, rfl, hz, hbw⟩ := hrel
                have HZ := Lib.hid hz; have HBW := Lib.hid hbw
                obtain ⟨_, _, x2⟩ := (BX2.out.later hbw).cells
                rw [HNK.out] at x2
                clear hz
                by_cases hlt : j < nk
                · have hji : (0 : Int) ≤ (j : Int) ∧ (j : Int) < (nk : Int) := by omega
                  obtain ⟨hji1, hji2⟩ := hji
                  have hjl : j < t.kids.length := by have := HNK.out; omega
                  obtain ⟨b2, off2, A2, c2, rfl, e0, e1, e2, hu2⟩ := (HKD.out.later hbw).get hjl
                  have hat := all_take (p := rbuild n L) hjl
                  rw [HZ.out, Bool.true_and] at hat
                  have hym := List.getElem_mem hjl
                  generalize t.kids[j]'(hjl) = y at e0 e1 e2 hu2 hat hym
                  have HAT := Lib.hid hat; have HU2 := Lib.hid hu2; have HLT := Lib.hid hlt
                  have HYM := Lib.hid hym
                  have HKw := Lib.hid (HK2.out.later hbw)
                  clear hat hu2 hlt hjl hbw hym
                  go_wp2_with fail
                  refine (HIH.out y _ _ HYM.out HKw.out HU2.out).mono ?_; rintro e w5 ⟨he, hb5⟩
                  have HB5 := Lib.hid (HBW.out.trans (hb5.mono HBW.out.size))
                  clear hb5 e0 e1 e2 x2
                  cases hq : rbuild n L y with
                  | true =>
                    rw [hq] at he HAT; subst he
                    clear hq
                    go_wp2_with fail
                    go_roundw
                    case rel => exact ⟨j + 1, HLT.out, by go_num, HAT.out, HB5.out⟩
                    case measure => have := HLT.out; simp [intOf]; omega
                  | false =>
                    rw [hq] at he HAT; subst he
                    clear hq
                    have HNO := Lib.hid (show R = false from HRK.out.trans (all_false HAT.out))
                    go_wp2_with fail
                    go_ret
                    exact ⟨ret_bool HNO.out.symm, HW.out.trans ((HB2.out.trans (HB5.out.mono HB2.out.size)).mono HW.out.size)⟩
                · obtain rfl : j = nk := by omega
                  have HYES := Lib.hid (show R = true by
                    have := HZ.out
                    rw [← HNK.out, List.take_length] at this
                    exact HRK.out.trans this)
                  clear hlt
                  go_wp2_with fail
                  go_ret
                  exact ⟨ret_bool HYES.out.symm, HW.out.trans ((HB2.out.trans (HBW.out.mono HB2.out.size)).mono HW.out.size)⟩
            · have g3 : (k == 3) = false := beq_eq_false_iff_ne.2 h3
              have g4 : (k == 4) = false := beq_eq_false_iff_ne.2 h4
              have g5 : (k == 5) = false := beq_eq_false_iff_ne.2 h5
              have g6 : (k == 6) = false := beq_eq_false_iff_ne.2 h6
              by_cases h7 : k = 7
              · subst h7
                have HRK := Lib.hid (HR7.out rfl)
                have HTT := Lib.hid (HT.out.later HB2.out)
                obtain ⟨_, x1, _⟩ := BX2.out.cells
                rw [HKK.out, HNK.out] at HTT
                clear HR3 HR7 HRE h3 h4 h5 h6 g3 g4 g5 g6
                go_wp2_with fail
                refine (HPOW.out _ _ HK2.out HTT.out).mono ?_; rintro e w5 ⟨rfl, hb5⟩
                have HB5 := Lib.hid (HB2.out.trans (hb5.mono HB2.out.size))
                clear hb5 x0 x1 x2
                go_wp2_with fail
                go_ret
                exact ⟨ret_bool HRK.out.symm, HW.out.trans (HB5.out.mono HW.out.size)⟩
              · have g7 : (k == 7) = false := beq_eq_false_iff_ne.2 h7
                have HRK := Lib.hid (HRE.out h3 h5 h6 h4 h7)
                clear HR3 HR7 HRE h3 h4 h5 h6 h7
                go_wp2_with fail
                go_ret
                exact ⟨ret_bool HRK.out.symm, HW.out.trans (HB2.out.mono HW.out.size)⟩
end Go.Proofs.YtihbmgkbipeakaaGreat

namespace Go.Proofs.YtihbmgkbipeakaaGreat
open Go.RowKit

theorem putL_len (l : List T) (t : T) : (putL l t).length ≤ l.length + 1 := by
  unfold putL
  cases scanL l t l.length with
  | none => exact Nat.le_succ _
  | some q => show ((l.take q ++ [t]) ++ l.drop q).length ≤ _; simp; omega
theorem foldl_put_len : ∀ (K l : List T), (K.foldl putL l).length ≤ l.length + K.length
  | [], l => by simp
  | t :: r, l => by
    have h1 := foldl_put_len r (putL l t)
    have h2 := putL_len l t
    simp only [List.foldl_cons, List.length_cons]; omega
theorem rfirst_len (K : List T) : (rfirst K).length ≤ K.length := by have := foldl_put_len K []; simpa [rfirst] using this
theorem rfirst_mem {K : List T} {x : T} : x ∈ rfirst K ↔ x ∈ K := by
  have := (first_facts K [] List.Pairwise.nil).2 x
  exact this.trans ⟨fun h => by rcases h with h | h; cases h; exact h, .inr⟩
theorem rfirst_snoc (K : List T) (t : T) : rfirst (K ++ [t]) = putL (rfirst K) t := by unfold rfirst; rw [List.foldl_append]; rfl

set_option maxRecDepth 100000 in
set_option maxHeartbeats 8000000 in
theorem rfirstT {L : List T} {A : Option Addr} {cap : Nat} (w : World) (h : KnownAt w A cap L) (hb : ∀ x ∈ L, x.bulk ≤ 1048576) :
    Calls Tryz.prog 44 #[.slice A L.length cap] w (PutT (rfirst (cnt L)) w) := by
  have hcap := h.cap_le
  unfold maxLen at hcap
  have HK := Lib.hid h; have HBK := Lib.hid hb
  have HST := Lib.hid (show KnownAt w none 0 (rfirst ((L.take 0).filter T.use)) from TermAt.mk 0 ⟨#[]⟩ none 0 [] (fun _ => (undef, undef, undef)) (by decide) (by decide) (Nat.le_refl _) (Nat.zero_le _) (.inl rfl) (fun i h => by simp at h))
  clear h hb
  go_enter Tryz.func44, Tryz.ntmps44
  go_upto_region 3 with fail
  go_loopw [4, 3] (fun s4 s3 wr => ∃ (j n : Nat) (Lo : List T) (A3 : Option Addr) (c3 : Nat), j ≤ L.length ∧ j ≤ 64 ∧ s4 = .int .i64 j ∧ s3 = .slice A3 n c3 ∧ n = Lo.length ∧ Lo = rfirst ((L.take j).filter T.use) ∧ KnownAt wr A3 c3 Lo ∧ Below w.heap.size w wr) (fun s4 _ _ => 64 - (intOf s4).toNat)
  case atStart => exact ⟨0, 0, _, none, 0, Nat.zero_le _, by omega, rfl, rfl, rfl, rfl, HST.out, Below.refl _ _⟩
  case round =>
    obtain ⟨j, n, Lo, A3, c3, hj, hj64, rfl, rfl, hn, hLo, hkn, hbw⟩ := hrel
    have HN := Lib.hid hn; have HLO := Lib.hid hLo; have HKN := Lib.hid hkn; have HBW := Lib.hid hbw
    by_cases hlt : j < L.length
    · have hji : (0 : Int) ≤ (j : Int) ∧ (j : Int) < (L.length : Int) := by omega
      obtain ⟨hji1, hji2⟩ := hji
      by_cases h64 : j < 64
      · have h64' : (j : Int) < 64 := by omega
        obtain ⟨b, off, A1, c1, rfl, d0, d1, d2, hu⟩ := (HK.out.later hbw).get hlt
        have hsc := cnt_succ L j hlt
        have hbx := HBK.out (L[j]'(hlt)) (List.getElem_mem hlt)
        have hlo : Lo.length ≤ 64 := by
          rw [hLo]
          exact Nat.le_trans (rfirst_len _) (Nat.le_trans (List.length_filter_le _ _) (by rw [List.length_take]; omega))
        have HOB := Lib.hid (show ∀ x ∈ Lo, x.bulk ≤ 1048576 from fun x hx => by
          rw [hLo, rfirst_mem] at hx
          exact HBK.out x (List.mem_of_mem_take (List.mem_filter.1 hx).1))
        generalize L[j]'(hlt) = y at d0 d1 d2 hu hbx hsc
        have HU := Lib.hid hu; have HSC := Lib.hid hsc
        have HLT := Lib.hid hlt; have H64 := Lib.hid h64
        have HLL := Lib.hid hlo
        clear hn hLo hkn hbw hsc hu hlt h64 hlo
        go_wp2_with fail
        refine (rfit y _ _ HU.out hbx).mono ?_; rintro e w5 ⟨he, hb5⟩
        have HB5 := Lib.hid (HBW.out.trans (hb5.mono HBW.out.size)); have HU5 := Lib.hid (HU.out.later hb5); have HK5 := Lib.hid (HKN.out.later hb5)
        have d0' := cell_later hb5 d0; have d1' := cell_later hb5 d1; have d2' := cell_later hb5 d2
        clear hb5 d0 d1 d2
        cases hq : y.use with
        | false =>
          rw [hq] at he; subst he
          have HE := Lib.hid (show (L.take (j + 1)).filter T.use = (L.take j).filter T.use by rw [HSC.out, hq]; rfl)
          clear hq
          go_wp2_with fail
          go_roundw
          case rel => exact ⟨j + 1, n, Lo, A3, c3, HLT.out, H64.out, by go_num, rfl, HN.out, by rw [HE.out]; exact HLO.out, HK5.out, HB5.out⟩
          case measure => have := H64.out; simp [intOf]; omega
        | true =>
          rw [hq] at he; subst he
          have HE := Lib.hid (show putL Lo y = rfirst ((L.take (j + 1)).filter T.use) by rw [HSC.out, hq, if_pos rfl, rfirst_snoc, ← HLO.out])
          have HPT := Lib.hid (rputT _ HK5.out HU5.out HOB.out hbx (Nat.le_trans HLL.out (by omega)))
          rw [← HN.out] at HPT
          clear hq
          go_wp2_with fail
          refine HPT.out.mono ?_; rintro e w6 ⟨A6, c6, rfl, hk6, hb6⟩
          have HK6 := Lib.hid hk6; have HB6 := Lib.hid (HB5.out.trans (hb6.mono HB5.out.size))
          clear hk6 hb6 d0' d1' d2'
          go_wp2_with fail
          go_roundw
          case rel => exact ⟨j + 1, _, _, A6, c6, HLT.out, H64.out, by go_num, rfl, rfl, HE.out, HK6.out, HB6.out⟩
          case measure => have := H64.out; simp [intOf]; omega
      · have h64' : ¬ (j : Int) < 64 := by omega
        have HE := Lib.hid (show Lo = rfirst (cnt L) by rw [hLo, show j = 64 by omega]; rfl)
        clear hn hLo hkn hbw h64
        go_wp2_with fail
        go_ret
        exact ⟨A3, c3, by rw [← HE.out, HN.out]; rfl, by rw [← HE.out]; exact HKN.out, HBW.out⟩
    · obtain rfl : j = L.length := by omega
      have HE := Lib.hid (show Lo = rfirst (cnt L) by rw [hLo, List.take_length]; unfold cnt; rw [List.take_of_length_le hj64])
      clear hn hLo hkn hbw
      go_wp2_with fail
      go_ret
      exact ⟨A3, c3, by rw [← HE.out, HN.out]; rfl, by rw [← HE.out]; exact HKN.out, HBW.out⟩
end Go.Proofs.YtihbmgkbipeakaaGreat
