/- Several texts in one: WebRl. -/
import Derived.Test.YtihbmgkbipeakaaGreatWebG25
namespace Go.Proofs.YtihbmgkbipeakaaGreat
open Go.RowKit

theorem without_step {l m : List T} {x : T} : withoutL l (x :: m) = match l.findIdx? (fun y => decide (T.cmp y x = 0)) with
  | none => none
  | some k => withoutL (l.eraseIdx k) m := rfl
/-- What without leaves. -/
def WithoutT (R : Option (List T)) (w : World) (e : Ending) (w' : World) : Prop := Below w.heap.size w w' ∧ match R with
  | none => e = .returned (.tuple #[.slice none 0 0, .bool false])
  | some L => ∃ A' cap', e = .returned (.tuple #[.slice A' L.length cap', .bool true]) ∧ KnownAt w' A' cap' L

set_option maxRecDepth 100000 in
set_option maxHeartbeats 8000000 in
theorem rwithout {L M : List T} {A A' : Option Addr} {cap cap' : Nat} (w : World) (h : KnownAt w A cap L) (h' : KnownAt w A' cap' M) (hb : ∀ x ∈ L, x.bulk ≤ 1048576) (hb' : ∀ x ∈ M, x.bulk ≤ 1048576) (hlen : L.length ≤ 1073741824) :
    Calls Tryz.prog 127 #[.slice A L.length cap, .slice A' M.length cap'] w (WithoutT (withoutL L M) w) := by
  obtain ⟨i0, hi0, hz0, hz1, hz2⟩ := info_parts Tryz.infoT
  obtain ⟨xs, hsrc, hct, hone⟩ := h.src'
  have hcap := h.cap_le
  have hcap' := h'.cap_le
  unfold maxLen at hcap hcap'
  obtain ⟨R, hR⟩ : ∃ R, withoutL L M = R := ⟨_, rfl⟩
  rw [hR]
  have HR := Lib.hid hR
  have HS := Lib.hid (hsrc.later (below_alloc1 w (.cells #[] 29))); have HCT := Lib.hid hct; have HONE := Lib.hid hone; have HK := Lib.hid h'; have HBK := Lib.hid hb; have HBK' := Lib.hid hb'
  have HE := Lib.hid (World.ownsRow_made (size := 3) (e := 29) w #[] 0 (base := w.heap.size) (Nat.le_refl _) (Nat.zero_le _) rfl)
  clear hsrc hct hone h h' hb hb' hR
  go_enter Tryz.func127, Tryz.ntmps127
  go_wp2_with (at_builtin; refine wpList_append_src _ rfl _ _ 27 rfl w.heap.size 29 i0 _ 3 48 Tryz.underlying27 hi0 hz0 hz1 hz2 rfl (by omega) _ 0 [] rfl HE.out _ L.length _ _ rfl HS.out HONE.out (by unfold maxLen; omega) (by omega) (by rw [size_alloc1]; omega) ?_; intro A7 c7 w7 hown7 hg7 hat7; simp only [Nat.zero_add, List.nil_append] at hown7 hg7 hat7 ⊢; have HOWN7 := Lib.hid hown7; have HB7 := Lib.hid (own_made_below hg7); clear hown7 hg7 hat7)
  go_loopw [6, 7] (fun s6 s7 wr => ∃ (j n : Nat) (Lc : List T) (A6 : Option Addr) (c6 : Nat) (xc : List Value), j ≤ M.length ∧ n = Lc.length ∧ s6 = .slice A6 n c6 ∧ s7 = .int .i64 j ∧ wr.ownsRow w.heap.size 29 3 (.slice A6 n c6) n xc ∧ CT (fun _ => true) w xc Lc ∧ Below w.heap.size w wr ∧ withoutL Lc (M.drop j) = R ∧ Lc.length ≤ L.length ∧ ∀ x ∈ Lc, x.bulk ≤ 1048576) (fun _ s7 _ => M.length - (intOf s7).toNat)
  case atStart => exact ⟨0, L.length, L, A7, c7, xs, Nat.zero_le _, rfl, rfl, rfl, HOWN7.out, HCT.out, HB7.out, HR.out, Nat.le_refl _, HBK.out⟩
  case round =>
    obtain ⟨j, n, Lc, A6, c6, xc, hj, hn, rfl, rfl, hown, hct, hbw, hrest, hln, hbc⟩ := hrel
    obtain ⟨wo, rfl⟩ : ∃ wo : World, wo = wr := ⟨_, rfl⟩
    have HN := Lib.hid hn
    have HOWN := Lib.hid hown; have HCTc := Lib.hid hct; have HBW := Lib.hid hbw; have HREST := Lib.hid hrest; have HBC := Lib.hid hbc
    have hnb : n ≤ 1073741824 := by omega
    clear hrest hbc
    by_cases hlt : j < M.length
    · have hji1 : (0 : Int) ≤ (j : Int) ∧ (j : Int) < (M.length : Int) := by omega
      obtain ⟨hji1, hji2⟩ := hji1
      have hknow := (KnownAt.of_own hown hbw hct).2
      have hcc := hknow.cap_le
      unfold maxLen at hcc
      have HKC := Lib.hid hknow
      have hM : ∀ W, Below wo.heap.size wo W → ∃ b off A1 c1, A' = some ⟨b, off, none⟩ ∧ W.cell? ⟨b, off + j * 3, none⟩ = some (.int .i64 (M[j]'(hlt)).kind) ∧ W.cell? ⟨b, off + j * 3 + 1, none⟩ = some (.string (M[j]'(hlt)).name) ∧
          W.cell? ⟨b, off + j * 3 + 2, none⟩ = some (.slice A1 (M[j]'(hlt)).kids.length c1) ∧ TermAt W (.agg #[.int .i64 (M[j]'(hlt)).kind, .string (M[j]'(hlt)).name, .slice A1 (M[j]'(hlt)).kids.length c1]) (M[j]'(hlt)) := fun W hbW => (HK.out.later (HBW.out.trans (hbW.mono HBW.out.size))).get hlt
      have hdrop : M.drop j = M[j]'(hlt) :: M.drop (j + 1) := List.drop_eq_getElem_cons hlt
      rw [hdrop] at HREST
      have hbm := HBK'.out (M[j]'(hlt)) (List.getElem_mem hlt)
      generalize M[j]'(hlt) = y at hM HREST hbm
      have HM := Lib.hid hM
      have HLT := Lib.hid hlt
      have HRS := Lib.hid HREST.out
      clear hM hdrop hown hct hbw hknow hlt HREST hn
      go_upto_region 6 with fail
      go_loopw [8] (fun s8 wr => ∃ k : Nat, k ≤ n ∧ s8 = .int .i64 k ∧ (∀ i (hi : i < Lc.length), i < k → T.cmp Lc[i] y ≠ 0) ∧ Below wo.heap.size wo wr) (fun s8 _ => n - (intOf s8).toNat)
      case atStart => exact ⟨0, Nat.zero_le _, rfl, fun i _ h => absurd h (by omega), Below.refl _ _⟩
      case round =>
        obtain ⟨k, hk, rfl, hz, hbr⟩ := hrel
        have HZ := Lib.hid hz; have HBR := Lib.hid hbr
        clear hz
        by_cases hkn : k < n
        · have hki : (0 : Int) ≤ (k : Int) ∧ (k : Int) < (n : Int) := by omega
          obtain ⟨hki1, hki2⟩ := hki
          have hkl : k < Lc.length := by have := HN.out; omega
          obtain ⟨b, off, A1, c1, rfl, d0, d1, d2, hu⟩ := (HKC.out.later hbr).get hkl
          obtain ⟨b', off', A2, c2, rfl, x0, x1, x2, hu'⟩ := HM.out _ hbr
          have HKN := Lib.hid hkn
          have hbx := HBC.out (Lc[k]'(hkl)) (List.getElem_mem hkl)
          have HCK := Lib.hid (show ∀ x, Lc[k]'(hkl) = x → T.cmp x y = 0 → Lc.findIdx? (fun z => decide (T.cmp z y = 0)) = some k from fun x hx h0 => by
            rw [List.findIdx?_eq_some_iff_getElem]
            exact ⟨hkl, by rw [hx]; exact decide_eq_true h0, fun i hi => by have := HZ.out i (by omega) hi; simpa using this⟩)
          obtain ⟨x, hx⟩ : ∃ x, Lc[k]'(hkl) = x := ⟨_, rfl⟩
          have HX := Lib.hid hx
          have HCK2 := Lib.hid (HCK.out x hx)
          rw [hx] at d0 d1 d2 hu hbx
          have HU := Lib.hid hu; have HU' := Lib.hid hu'
          have HS := Lib.hid (fun v v' W' (h1 : TermAt W' v x) (h2 : TermAt W' v' y) => rsame x y v v' W' h1 h2 hbx hbm)
          obtain ⟨q, hq⟩ : ∃ q, decide (T.cmp x y = 0) = q := ⟨_, rfl⟩
          rw [hq] at HS
          have HQ := Lib.hid hq
          clear hu hu' hbr hbx hq hx HCK
          go_upto_region 6 with fail
          (refine wp_region_held_drew (S := (fun Wq => Wq.cell? ⟨b, off + k * 3, none⟩ = some (.int .i64 x.kind) ∧ Wq.cell? ⟨b, off + k * 3 + 1, none⟩ = some (.string x.name) ∧ Wq.cell? ⟨b, off + k * 3 + 2, none⟩ = some (.slice A1 x.kids.length c1) ∧ Wq.cell? ⟨b', off' + j * 3, none⟩ = some (.int .i64 y.kind) ∧ Wq.cell? ⟨b', off' + j * 3 + 1, none⟩ = some (.string y.name) ∧ Wq.cell? ⟨b', off' + j * 3 + 2, none⟩ = some (.slice A2 y.kids.length c2) ∧ Below wr.heap.size wr Wq)) (by kernel_rfl) (show _ ∧ _ ∧ _ ∧ _ ∧ _ ∧ _ ∧ _ from ⟨d0, d1, d2, x0, x1, x2, (Below.refl _ wr).drew⟩) (fun hHeld => ?_))
          ((first | (refine wpAnyH_take (i := 0) (v := ?_) (by simp only [List.getElem?_toArray, List.getElem?_cons_zero]; rfl) (by kernel_rfl) (by kernel_rfl) (by kernel_rfl) (by exact fun _ _ _ h => h) (Or.inl ⟨by rfl, ?_⟩) (by assumption) ?_; rotate_left 1; · (intro w hSw; (try dsimp only at hSw); go_simp; (try with_reducible rfl))) | (refine wpAnyH_take (i := 0) (v := undef) (by simp only [List.getElem?_toArray, List.getElem?_cons_zero]; rfl) (by kernel_rfl) (by kernel_rfl) (by kernel_rfl) (by exact fun _ _ _ h => h) (Or.inr ⟨by rfl, rfl⟩) (by assumption) ?_)); (try simp only [Act.put, List.setIfInBounds_toArray, List.set_cons_zero, List.set_cons_succ]))
          ((first | (refine wpAnyH_take (i := 1) (v := ?_) (by simp only [List.getElem?_toArray, List.getElem?_cons_succ, List.getElem?_cons_zero]; rfl) (by kernel_rfl) (by kernel_rfl) (by kernel_rfl) (by exact fun _ _ _ h => h) (Or.inl ⟨by rfl, ?_⟩) (by assumption) ?_; rotate_left 1; · (intro w hSw; (try dsimp only at hSw); go_simp; (try with_reducible rfl))) | (refine wpAnyH_take (i := 1) (v := undef) (by simp only [List.getElem?_toArray, List.getElem?_cons_succ, List.getElem?_cons_zero]; rfl) (by kernel_rfl) (by kernel_rfl) (by kernel_rfl) (by exact fun _ _ _ h => h) (Or.inr ⟨by rfl, rfl⟩) (by assumption) ?_)); (try simp only [Act.put, List.setIfInBounds_toArray, List.set_cons_zero, List.set_cons_succ]))
          ((first | (refine wpAnyH_take (i := 2) (v := ?_) (by simp only [List.getElem?_toArray, List.getElem?_cons_succ, List.getElem?_cons_zero]; rfl) (by kernel_rfl) (by kernel_rfl) (by kernel_rfl) (by exact fun _ _ _ h => h) (Or.inl ⟨by rfl, ?_⟩) (by assumption) ?_; rotate_left 1; · (intro w hSw; (try dsimp only at hSw); go_simp; (try with_reducible rfl))) | (refine wpAnyH_take (i := 2) (v := undef) (by simp only [List.getElem?_toArray, List.getElem?_cons_succ, List.getElem?_cons_zero]; rfl) (by kernel_rfl) (by kernel_rfl) (by kernel_rfl) (by exact fun _ _ _ h => h) (Or.inr ⟨by rfl, rfl⟩) (by assumption) ?_)); (try simp only [Act.put, List.setIfInBounds_toArray, List.set_cons_zero, List.set_cons_succ]))
          ((first | (refine wpAnyH_take (i := 3) (v := ?_) (by simp only [List.getElem?_toArray, List.getElem?_cons_succ, List.getElem?_cons_zero]; rfl) (by kernel_rfl) (by kernel_rfl) (by kernel_rfl) (by exact fun _ _ _ h => h) (Or.inl ⟨by rfl, ?_⟩) (by assumption) ?_; rotate_left 1; · (intro w hSw; (try dsimp only at hSw); go_simp; (try with_reducible rfl))) | (refine wpAnyH_take (i := 3) (v := undef) (by simp only [List.getElem?_toArray, List.getElem?_cons_succ, List.getElem?_cons_zero]; rfl) (by kernel_rfl) (by kernel_rfl) (by kernel_rfl) (by exact fun _ _ _ h => h) (Or.inr ⟨by rfl, rfl⟩) (by assumption) ?_)); (try simp only [Act.put, List.setIfInBounds_toArray, List.set_cons_zero, List.set_cons_succ]))
          ((first | (refine wpAnyH_take (i := 4) (v := ?_) (by simp only [List.getElem?_toArray, List.getElem?_cons_succ, List.getElem?_cons_zero]; rfl) (by kernel_rfl) (by kernel_rfl) (by kernel_rfl) (by exact fun _ _ _ h => h) (Or.inl ⟨by rfl, ?_⟩) (by assumption) ?_; rotate_left 1; · (intro w hSw; (try dsimp only at hSw); go_simp; (try with_reducible rfl))) | (refine wpAnyH_take (i := 4) (v := undef) (by simp only [List.getElem?_toArray, List.getElem?_cons_succ, List.getElem?_cons_zero]; rfl) (by kernel_rfl) (by kernel_rfl) (by kernel_rfl) (by exact fun _ _ _ h => h) (Or.inr ⟨by rfl, rfl⟩) (by assumption) ?_)); (try simp only [Act.put, List.setIfInBounds_toArray, List.set_cons_zero, List.set_cons_succ]))
          ((first | (refine wpAnyH_take (i := 5) (v := ?_) (by simp only [List.getElem?_toArray, List.getElem?_cons_succ, List.getElem?_cons_zero]; rfl) (by kernel_rfl) (by kernel_rfl) (by kernel_rfl) (by exact fun _ _ _ h => h) (Or.inl ⟨by rfl, ?_⟩) (by assumption) ?_; rotate_left 1; · (intro w hSw; (try dsimp only at hSw); go_simp; (try with_reducible rfl))) | (refine wpAnyH_take (i := 5) (v := undef) (by simp only [List.getElem?_toArray, List.getElem?_cons_succ, List.getElem?_cons_zero]; rfl) (by kernel_rfl) (by kernel_rfl) (by kernel_rfl) (by exact fun _ _ _ h => h) (Or.inr ⟨by rfl, rfl⟩) (by assumption) ?_)); (try simp only [Act.put, List.setIfInBounds_toArray, List.set_cons_zero, List.set_cons_succ]))
          ((first | (refine wpAnyH_take (i := 6) (v := ?_) (by simp only [List.getElem?_toArray, List.getElem?_cons_succ, List.getElem?_cons_zero]; rfl) (by kernel_rfl) (by kernel_rfl) (by kernel_rfl) (by exact fun _ _ _ h => h) (Or.inl ⟨by rfl, ?_⟩) (by assumption) ?_; rotate_left 1; · (intro w hSw; (try dsimp only at hSw); go_simp; (try with_reducible rfl))) | (refine wpAnyH_take (i := 6) (v := undef) (by simp only [List.getElem?_toArray, List.getElem?_cons_succ, List.getElem?_cons_zero]; rfl) (by kernel_rfl) (by kernel_rfl) (by kernel_rfl) (by exact fun _ _ _ h => h) (Or.inr ⟨by rfl, rfl⟩) (by assumption) ?_)); (try simp only [Act.put, List.setIfInBounds_toArray, List.set_cons_zero, List.set_cons_succ]))
          ((first | (refine wpAnyH_take (i := 7) (v := ?_) (by simp only [List.getElem?_toArray, List.getElem?_cons_succ, List.getElem?_cons_zero]; rfl) (by kernel_rfl) (by kernel_rfl) (by kernel_rfl) (by exact fun _ _ _ h => h) (Or.inl ⟨by rfl, ?_⟩) (by assumption) ?_; rotate_left 1; · (intro w hSw; (try dsimp only at hSw); go_simp; (try with_reducible rfl))) | (refine wpAnyH_take (i := 7) (v := undef) (by simp only [List.getElem?_toArray, List.getElem?_cons_succ, List.getElem?_cons_zero]; rfl) (by kernel_rfl) (by kernel_rfl) (by kernel_rfl) (by exact fun _ _ _ h => h) (Or.inr ⟨by rfl, rfl⟩) (by assumption) ?_)); (try simp only [Act.put, List.setIfInBounds_toArray, List.set_cons_zero, List.set_cons_succ]))
          ((first | (refine wpAnyH_take (i := 8) (v := ?_) (by simp only [List.getElem?_toArray, List.getElem?_cons_succ, List.getElem?_cons_zero]; rfl) (by kernel_rfl) (by kernel_rfl) (by kernel_rfl) (by exact fun _ _ _ h => h) (Or.inl ⟨by rfl, ?_⟩) (by assumption) ?_; rotate_left 1; · (intro w hSw; (try dsimp only at hSw); go_simp; (try with_reducible rfl))) | (refine wpAnyH_take (i := 8) (v := undef) (by simp only [List.getElem?_toArray, List.getElem?_cons_succ, List.getElem?_cons_zero]; rfl) (by kernel_rfl) (by kernel_rfl) (by kernel_rfl) (by exact fun _ _ _ h => h) (Or.inr ⟨by rfl, rfl⟩) (by assumption) ?_)); (try simp only [Act.put, List.setIfInBounds_toArray, List.set_cons_zero, List.set_cons_succ]))
          ((first | (refine wpAnyH_take (i := 9) (v := ?_) (by simp only [List.getElem?_toArray, List.getElem?_cons_succ, List.getElem?_cons_zero]; rfl) (by kernel_rfl) (by kernel_rfl) (by kernel_rfl) (by exact fun _ _ _ h => h) (Or.inl ⟨by rfl, ?_⟩) (by assumption) ?_; rotate_left 1; · (intro w hSw; (try dsimp only at hSw); go_simp; (try with_reducible rfl))) | (refine wpAnyH_take (i := 9) (v := undef) (by simp only [List.getElem?_toArray, List.getElem?_cons_succ, List.getElem?_cons_zero]; rfl) (by kernel_rfl) (by kernel_rfl) (by kernel_rfl) (by exact fun _ _ _ h => h) (Or.inr ⟨by rfl, rfl⟩) (by assumption) ?_)); (try simp only [Act.put, List.setIfInBounds_toArray, List.set_cons_zero, List.set_cons_succ]))
          ((first | (refine wpAnyH_take (i := 10) (v := ?_) (by simp only [List.getElem?_toArray, List.getElem?_cons_succ, List.getElem?_cons_zero]; rfl) (by kernel_rfl) (by kernel_rfl) (by kernel_rfl) (by exact fun _ _ _ h => h) (Or.inl ⟨by rfl, ?_⟩) (by assumption) ?_; rotate_left 1; · (intro w hSw; (try dsimp only at hSw); go_simp; (try with_reducible rfl))) | (refine wpAnyH_take (i := 10) (v := undef) (by simp only [List.getElem?_toArray, List.getElem?_cons_succ, List.getElem?_cons_zero]; rfl) (by kernel_rfl) (by kernel_rfl) (by kernel_rfl) (by exact fun _ _ _ h => h) (Or.inr ⟨by rfl, rfl⟩) (by assumption) ?_)); (try simp only [Act.put, List.setIfInBounds_toArray, List.set_cons_zero, List.set_cons_succ]))
          ((first | (refine wpAnyH_take (i := 11) (v := ?_) (by simp only [List.getElem?_toArray, List.getElem?_cons_succ, List.getElem?_cons_zero]; rfl) (by kernel_rfl) (by kernel_rfl) (by kernel_rfl) (by exact fun _ _ _ h => h) (Or.inl ⟨by rfl, ?_⟩) (by assumption) ?_; rotate_left 1; · (intro w hSw; (try dsimp only at hSw); go_simp; (try with_reducible rfl))) | (refine wpAnyH_take (i := 11) (v := undef) (by simp only [List.getElem?_toArray, List.getElem?_cons_succ, List.getElem?_cons_zero]; rfl) (by kernel_rfl) (by kernel_rfl) (by kernel_rfl) (by exact fun _ _ _ h => h) (Or.inr ⟨by rfl, rfl⟩) (by assumption) ?_)); (try simp only [Act.put, List.setIfInBounds_toArray, List.set_cons_zero, List.set_cons_succ]))
          ((first | (refine wpAnyH_take (i := 12) (v := ?_) (by simp only [List.getElem?_toArray, List.getElem?_cons_succ, List.getElem?_cons_zero]; rfl) (by kernel_rfl) (by kernel_rfl) (by kernel_rfl) (by exact fun _ _ _ h => h) (Or.inl ⟨by rfl, ?_⟩) (by assumption) ?_; rotate_left 1; · (intro w hSw; (try dsimp only at hSw); go_simp; (try with_reducible rfl))) | (refine wpAnyH_take (i := 12) (v := undef) (by simp only [List.getElem?_toArray, List.getElem?_cons_succ, List.getElem?_cons_zero]; rfl) (by kernel_rfl) (by kernel_rfl) (by kernel_rfl) (by exact fun _ _ _ h => h) (Or.inr ⟨by rfl, rfl⟩) (by assumption) ?_)); (try simp only [Act.put, List.setIfInBounds_toArray, List.set_cons_zero, List.set_cons_succ]))
          (refine wpAnyH_ready (rs := [13]) (by kernel_rfl) (by simp) ?_; refine AllReadyH.cons (by simp only [List.getElem?_toArray, List.getElem?_cons_succ, List.getElem?_cons_zero]; rfl) (fun K hK => ?_) AllReadyH.nil; go_simp; go_at_call 25; refine (HS.out _ _ _ (HU.out.later hHeld.2.2.2.2.2.2) (HU'.out.later hHeld.2.2.2.2.2.2)).mono ?_; rintro e wz ⟨rfl, hb4⟩; refine hK.out _ _ (⟨cell_later hb4 hHeld.1, cell_later hb4 hHeld.2.1, cell_later hb4 hHeld.2.2.1, cell_later hb4 hHeld.2.2.2.1, cell_later hb4 hHeld.2.2.2.2.1, cell_later hb4 hHeld.2.2.2.2.2.1, hHeld.2.2.2.2.2.2.trans (hb4.mono hHeld.2.2.2.2.2.2.size)⟩) (fun hHeld => ?_); clear hK K; (try simp only [Act.put, List.setIfInBounds_toArray, List.set_cons_zero, List.set_cons_succ]))
          ((first | (refine wpAnyH_take (i := 14) (v := ?_) (by simp only [List.getElem?_toArray, List.getElem?_cons_succ, List.getElem?_cons_zero]; rfl) (by kernel_rfl) (by kernel_rfl) (by kernel_rfl) (by exact fun _ _ _ h => h) (Or.inl ⟨by rfl, ?_⟩) (by assumption) ?_; rotate_left 1; · (intro w hSw; (try dsimp only at hSw); go_simp; (try with_reducible rfl))) | (refine wpAnyH_take (i := 14) (v := undef) (by simp only [List.getElem?_toArray, List.getElem?_cons_succ, List.getElem?_cons_zero]; rfl) (by kernel_rfl) (by kernel_rfl) (by kernel_rfl) (by exact fun _ _ _ h => h) (Or.inr ⟨by rfl, rfl⟩) (by assumption) ?_)); (try simp only [Act.put, List.setIfInBounds_toArray, List.set_cons_zero, List.set_cons_succ]))
          ((first | (refine wpAnyH_take (i := 15) (v := ?_) (by simp only [List.getElem?_toArray, List.getElem?_cons_succ, List.getElem?_cons_zero]; rfl) (by kernel_rfl) (by kernel_rfl) (by kernel_rfl) (by exact fun _ _ _ h => h) (Or.inl ⟨by rfl, ?_⟩) (by assumption) ?_; rotate_left 1; · (intro w hSw; (try dsimp only at hSw); go_simp; (try with_reducible rfl))) | (refine wpAnyH_take (i := 15) (v := undef) (by simp only [List.getElem?_toArray, List.getElem?_cons_succ, List.getElem?_cons_zero]; rfl) (by kernel_rfl) (by kernel_rfl) (by kernel_rfl) (by exact fun _ _ _ h => h) (Or.inr ⟨by rfl, rfl⟩) (by assumption) ?_)); (try simp only [Act.put, List.setIfInBounds_toArray, List.set_cons_zero, List.set_cons_succ]))
          (refine wpAnyH_done (by kernel_rfl) ?_ _)
          cases q with
          | true =>
            have HFI := Lib.hid (HCK2.out (of_decide_eq_true HQ.out))
            obtain ⟨wq, hwq⟩ : ∃ wq, wz.drew = wq := ⟨_, rfl⟩
            have HB9 := Lib.hid (show Below wo.heap.size wo wq by rw [← hwq]; exact (HBR.out.trans (hHeld.2.2.2.2.2.2.mono HBR.out.size)).drew)
            have HWQ := Lib.hid hwq
            have hne : ¬ (k : Int) = (n : Int) := by omega
            have hown9 := own_later HOWN.out HB9.out
            have hcn : n ≤ c6 := by have := HN.out; omega
            have hsr := (Src.of_own hown9).cut (k := k + 1) hkn hcn
            have HOT := Lib.hid (own_take' hown9 hk)
            have HO3 := Lib.hid (show ∀ u ∈ xc.drop ((k + 1) * 3), u.oneCell' = true from fun u hu => HCTc.out.one' u (List.mem_of_mem_drop hu))
            have hwr : IntKind.i64.wrap ((k : Int) + 1) = ((k + 1 : Nat) : Int) := by rw [IntWalk.i64_in _ (by omega)]; omega
            have hk1 : ((k + 1 : Nat) : Int) ≤ (n : Int) := by omega
            have hk2 : (k : Int) ≤ (c6 : Int) := by omega
            have hk5 : (k : Int) ≤ (k : Int) + 1 := by omega
            have hk6 : (k : Int) + 1 ≤ (n : Int) := by omega
            have hk7 : (0 : Int) ≤ (k : Int) + 1 := by omega
            have hk3 : (n : Int) ≤ (c6 : Int) := by omega
            have hk4 : (0 : Int) ≤ ((k + 1 : Nat) : Int) := by omega
            have HHB := Lib.hid (show w.heap.size ≤ wq.heap.size by have := HBW.out.size; have := HB9.out.size; omega)
            have HNEW := Lib.hid (show ∀ m, m = n - (k + 1) → ∀ A8 c8 w8, w8.ownsRow w.heap.size 29 3 (.slice A8 (k + m) c8) (k + m) (xc.take (k * 3) ++ xc.drop ((k + 1) * 3)) → wq.grownBy w8 (Value.slice (some ⟨b, off, none⟩) k c6).ownBlock →
                ∃ (n' : Nat) (Lc' : List T), n' = Lc'.length ∧ k + m = n' ∧ CT (fun _ => true) w (xc.take (k * 3) ++ xc.drop ((k + 1) * 3)) Lc' ∧ Below w.heap.size w w8 ∧ withoutL Lc' (M.drop (j + 1)) = R ∧ Lc'.length ≤ L.length ∧ ∀ x ∈ Lc', x.bulk ≤ 1048576 from fun m hm A8 c8 w8 hown8 hg8 => by
              have he := List.length_eraseIdx_of_lt (l := Lc) (i := k) (by have := HN.out; omega)
              refine ⟨k + m, Lc.eraseIdx k, by have := HN.out; omega, rfl, HCTc.out.erase k, ?_, ?_, by omega, fun x hx => HBC.out x ((List.eraseIdx_sublist Lc k).subset hx)⟩
              · exact (HBW.out.trans (HB9.out.mono HBW.out.size)).grown hg8 HHB.out (fun b hb => (HOT.out.lt b hb).1)
              · have := HRS.out
                rw [without_step, HFI.out] at this
                exact this)
            by_cases hck : c6 = k + 1
            · subst hck
              rw [if_pos rfl, show n - (k + 1) = 0 by omega] at hsr
              have HM0 := Lib.hid (show 0 = n - (k + 1) by omega)
              have HS3 := Lib.hid hsr
              clear hsr hown9 hwq
              go_wp2_with fail
              go_upto_region 10 with fail
              go_still_tail 7, (by kernel_rfl)
              change wpList _ _ _ _ _ wz.drew
              rw [HWQ.out]
              go_wp2_with (at_builtin; refine wpList_append_src _ rfl (.tmp 42) (.tmp 46) 27 rfl w.heap.size 29 i0 _ 3 48 Tryz.underlying27 hi0 hz0 hz1 hz2 rfl (by omega) _ k _ rfl HOT.out _ 0 _ _ rfl HS3.out HO3.out (by unfold maxLen; omega) (by omega) HHB.out ?_; intro A8 c8 w8 hown8 hg8 hat8; obtain ⟨n', Lc', hn1, hn2, hc1, hb1, hr1, hl1, hbk1⟩ := HNEW.out _ HM0.out A8 c8 w8 hown8 hg8; rw [hn2] at hown8 ⊢; have HFX := Lib.hid (And.intro hn1 (And.intro hown8 (And.intro hc1 (And.intro hb1 (And.intro hr1 (And.intro hl1 hbk1)))))); clear hn1 hn2 hc1 hb1 hr1 hl1 hbk1 hown8 hg8 hat8 HNEW)
              go_roundw
              case rel => exact ⟨j + 1, n', Lc', A8, c8, _, HLT.out, HFX.out.1, rfl, by go_num, HFX.out.2.1, HFX.out.2.2.1, HFX.out.2.2.2.1, HFX.out.2.2.2.2.1, HFX.out.2.2.2.2.2.1, HFX.out.2.2.2.2.2.2⟩
              case measure => have := HLT.out; simp [intOf]; omega
            · have hck' : ¬ (c6 : Int) = ((k + 1 : Nat) : Int) := by omega
              rw [if_neg hck] at hsr
              simp only [Option.map_some] at hsr
              have HS3 := Lib.hid hsr
              clear hsr hown9 hwq
              go_wp2_with fail
              go_upto_region 10 with fail
              go_still_tail 7, (by kernel_rfl)
              change wpList _ _ _ _ _ wz.drew
              rw [HWQ.out]
              go_wp2_with (at_builtin; refine wpList_append_src _ rfl (.tmp 42) (.tmp 46) 27 rfl w.heap.size 29 i0 _ 3 48 Tryz.underlying27 hi0 hz0 hz1 hz2 rfl (by omega) _ k _ rfl HOT.out _ (n - (k + 1)) _ _ rfl HS3.out HO3.out (by unfold maxLen; omega) (by omega) HHB.out ?_; intro A8 c8 w8 hown8 hg8 hat8; obtain ⟨n', Lc', hn1, hn2, hc1, hb1, hr1, hl1, hbk1⟩ := HNEW.out _ rfl A8 c8 w8 hown8 hg8; rw [hn2] at hown8 ⊢; have HFX := Lib.hid (And.intro hn1 (And.intro hown8 (And.intro hc1 (And.intro hb1 (And.intro hr1 (And.intro hl1 hbk1)))))); clear hn1 hn2 hc1 hb1 hr1 hl1 hbk1 hown8 hg8 hat8 HNEW)
              go_roundw
              case rel => exact ⟨j + 1, n', Lc', A8, c8, _, HLT.out, HFX.out.1, rfl, by go_num, HFX.out.2.1, HFX.out.2.2.1, HFX.out.2.2.2.1, HFX.out.2.2.2.2.1, HFX.out.2.2.2.2.2.1, HFX.out.2.2.2.2.2.2⟩
              case measure => have := HLT.out; simp [intOf]; omega
          | false =>
            go_wp2_with fail
            go_roundw
            case rel =>
              refine ⟨k + 1, HKN.out, by go_num, fun i hi hik => ?_, HBR.out.trans (hHeld.2.2.2.2.2.2.mono HBR.out.size)⟩
              by_cases e : i = k
              · subst e; rw [HX.out]; exact of_decide_eq_false HQ.out
              · exact HZ.out i hi (by omega)
            case measure => have := HKN.out; simp [intOf]; omega
        · obtain rfl : k = n := by omega
          have HFI := Lib.hid (show R = none by
            rw [← HRS.out, without_step, List.findIdx?_eq_none_iff.2 (fun x hx => by
              obtain ⟨i, hi, e⟩ := List.getElem_of_mem hx
              have := HZ.out i hi (by have := HN.out; omega)
              rw [e] at this; simpa using this)])
          go_upto_region 6 with fail
          (refine wp_region_held_drew (S := (fun Wq => Below wr.heap.size wr Wq)) (by kernel_rfl) ((Below.refl _ wr).drew) (fun hHeld => ?_))
          ((first | (refine wpAnyH_take (i := 0) (v := ?_) (by simp only [List.getElem?_toArray, List.getElem?_cons_zero]; rfl) (by kernel_rfl) (by kernel_rfl) (by kernel_rfl) (by exact fun _ _ _ h => h) (Or.inl ⟨by rfl, ?_⟩) (by assumption) ?_; rotate_left 1; · (intro w hSw; (try dsimp only at hSw); go_simp; (try with_reducible rfl))) | (refine wpAnyH_take (i := 0) (v := undef) (by simp only [List.getElem?_toArray, List.getElem?_cons_zero]; rfl) (by kernel_rfl) (by kernel_rfl) (by kernel_rfl) (by exact fun _ _ _ h => h) (Or.inr ⟨by rfl, rfl⟩) (by assumption) ?_)); (try simp only [Act.put, List.setIfInBounds_toArray, List.set_cons_zero, List.set_cons_succ]))
          ((first | (refine wpAnyH_take (i := 1) (v := ?_) (by simp only [List.getElem?_toArray, List.getElem?_cons_succ, List.getElem?_cons_zero]; rfl) (by kernel_rfl) (by kernel_rfl) (by kernel_rfl) (by exact fun _ _ _ h => h) (Or.inl ⟨by rfl, ?_⟩) (by assumption) ?_; rotate_left 1; · (intro w hSw; (try dsimp only at hSw); go_simp; (try with_reducible rfl))) | (refine wpAnyH_take (i := 1) (v := undef) (by simp only [List.getElem?_toArray, List.getElem?_cons_succ, List.getElem?_cons_zero]; rfl) (by kernel_rfl) (by kernel_rfl) (by kernel_rfl) (by exact fun _ _ _ h => h) (Or.inr ⟨by rfl, rfl⟩) (by assumption) ?_)); (try simp only [Act.put, List.setIfInBounds_toArray, List.set_cons_zero, List.set_cons_succ]))
          ((first | (refine wpAnyH_take (i := 2) (v := ?_) (by simp only [List.getElem?_toArray, List.getElem?_cons_succ, List.getElem?_cons_zero]; rfl) (by kernel_rfl) (by kernel_rfl) (by kernel_rfl) (by exact fun _ _ _ h => h) (Or.inl ⟨by rfl, ?_⟩) (by assumption) ?_; rotate_left 1; · (intro w hSw; (try dsimp only at hSw); go_simp; (try with_reducible rfl))) | (refine wpAnyH_take (i := 2) (v := undef) (by simp only [List.getElem?_toArray, List.getElem?_cons_succ, List.getElem?_cons_zero]; rfl) (by kernel_rfl) (by kernel_rfl) (by kernel_rfl) (by exact fun _ _ _ h => h) (Or.inr ⟨by rfl, rfl⟩) (by assumption) ?_)); (try simp only [Act.put, List.setIfInBounds_toArray, List.set_cons_zero, List.set_cons_succ]))
          ((first | (refine wpAnyH_take (i := 3) (v := ?_) (by simp only [List.getElem?_toArray, List.getElem?_cons_succ, List.getElem?_cons_zero]; rfl) (by kernel_rfl) (by kernel_rfl) (by kernel_rfl) (by exact fun _ _ _ h => h) (Or.inl ⟨by rfl, ?_⟩) (by assumption) ?_; rotate_left 1; · (intro w hSw; (try dsimp only at hSw); go_simp; (try with_reducible rfl))) | (refine wpAnyH_take (i := 3) (v := undef) (by simp only [List.getElem?_toArray, List.getElem?_cons_succ, List.getElem?_cons_zero]; rfl) (by kernel_rfl) (by kernel_rfl) (by kernel_rfl) (by exact fun _ _ _ h => h) (Or.inr ⟨by rfl, rfl⟩) (by assumption) ?_)); (try simp only [Act.put, List.setIfInBounds_toArray, List.set_cons_zero, List.set_cons_succ]))
          ((first | (refine wpAnyH_take (i := 4) (v := ?_) (by simp only [List.getElem?_toArray, List.getElem?_cons_succ, List.getElem?_cons_zero]; rfl) (by kernel_rfl) (by kernel_rfl) (by kernel_rfl) (by exact fun _ _ _ h => h) (Or.inl ⟨by rfl, ?_⟩) (by assumption) ?_; rotate_left 1; · (intro w hSw; (try dsimp only at hSw); go_simp; (try with_reducible rfl))) | (refine wpAnyH_take (i := 4) (v := undef) (by simp only [List.getElem?_toArray, List.getElem?_cons_succ, List.getElem?_cons_zero]; rfl) (by kernel_rfl) (by kernel_rfl) (by kernel_rfl) (by exact fun _ _ _ h => h) (Or.inr ⟨by rfl, rfl⟩) (by assumption) ?_)); (try simp only [Act.put, List.setIfInBounds_toArray, List.set_cons_zero, List.set_cons_succ]))
          ((first | (refine wpAnyH_take (i := 5) (v := ?_) (by simp only [List.getElem?_toArray, List.getElem?_cons_succ, List.getElem?_cons_zero]; rfl) (by kernel_rfl) (by kernel_rfl) (by kernel_rfl) (by exact fun _ _ _ h => h) (Or.inl ⟨by rfl, ?_⟩) (by assumption) ?_; rotate_left 1; · (intro w hSw; (try dsimp only at hSw); go_simp; (try with_reducible rfl))) | (refine wpAnyH_take (i := 5) (v := undef) (by simp only [List.getElem?_toArray, List.getElem?_cons_succ, List.getElem?_cons_zero]; rfl) (by kernel_rfl) (by kernel_rfl) (by kernel_rfl) (by exact fun _ _ _ h => h) (Or.inr ⟨by rfl, rfl⟩) (by assumption) ?_)); (try simp only [Act.put, List.setIfInBounds_toArray, List.set_cons_zero, List.set_cons_succ]))
          ((first | (refine wpAnyH_take (i := 6) (v := ?_) (by simp only [List.getElem?_toArray, List.getElem?_cons_succ, List.getElem?_cons_zero]; rfl) (by kernel_rfl) (by kernel_rfl) (by kernel_rfl) (by exact fun _ _ _ h => h) (Or.inl ⟨by rfl, ?_⟩) (by assumption) ?_; rotate_left 1; · (intro w hSw; (try dsimp only at hSw); go_simp; (try with_reducible rfl))) | (refine wpAnyH_take (i := 6) (v := undef) (by simp only [List.getElem?_toArray, List.getElem?_cons_succ, List.getElem?_cons_zero]; rfl) (by kernel_rfl) (by kernel_rfl) (by kernel_rfl) (by exact fun _ _ _ h => h) (Or.inr ⟨by rfl, rfl⟩) (by assumption) ?_)); (try simp only [Act.put, List.setIfInBounds_toArray, List.set_cons_zero, List.set_cons_succ]))
          ((first | (refine wpAnyH_take (i := 7) (v := ?_) (by simp only [List.getElem?_toArray, List.getElem?_cons_succ, List.getElem?_cons_zero]; rfl) (by kernel_rfl) (by kernel_rfl) (by kernel_rfl) (by exact fun _ _ _ h => h) (Or.inl ⟨by rfl, ?_⟩) (by assumption) ?_; rotate_left 1; · (intro w hSw; (try dsimp only at hSw); go_simp; (try with_reducible rfl))) | (refine wpAnyH_take (i := 7) (v := undef) (by simp only [List.getElem?_toArray, List.getElem?_cons_succ, List.getElem?_cons_zero]; rfl) (by kernel_rfl) (by kernel_rfl) (by kernel_rfl) (by exact fun _ _ _ h => h) (Or.inr ⟨by rfl, rfl⟩) (by assumption) ?_)); (try simp only [Act.put, List.setIfInBounds_toArray, List.set_cons_zero, List.set_cons_succ]))
          ((first | (refine wpAnyH_take (i := 8) (v := ?_) (by simp only [List.getElem?_toArray, List.getElem?_cons_succ, List.getElem?_cons_zero]; rfl) (by kernel_rfl) (by kernel_rfl) (by kernel_rfl) (by exact fun _ _ _ h => h) (Or.inl ⟨by rfl, ?_⟩) (by assumption) ?_; rotate_left 1; · (intro w hSw; (try dsimp only at hSw); go_simp; (try with_reducible rfl))) | (refine wpAnyH_take (i := 8) (v := undef) (by simp only [List.getElem?_toArray, List.getElem?_cons_succ, List.getElem?_cons_zero]; rfl) (by kernel_rfl) (by kernel_rfl) (by kernel_rfl) (by exact fun _ _ _ h => h) (Or.inr ⟨by rfl, rfl⟩) (by assumption) ?_)); (try simp only [Act.put, List.setIfInBounds_toArray, List.set_cons_zero, List.set_cons_succ]))
          ((first | (refine wpAnyH_take (i := 9) (v := ?_) (by simp only [List.getElem?_toArray, List.getElem?_cons_succ, List.getElem?_cons_zero]; rfl) (by kernel_rfl) (by kernel_rfl) (by kernel_rfl) (by exact fun _ _ _ h => h) (Or.inl ⟨by rfl, ?_⟩) (by assumption) ?_; rotate_left 1; · (intro w hSw; (try dsimp only at hSw); go_simp; (try with_reducible rfl))) | (refine wpAnyH_take (i := 9) (v := undef) (by simp only [List.getElem?_toArray, List.getElem?_cons_succ, List.getElem?_cons_zero]; rfl) (by kernel_rfl) (by kernel_rfl) (by kernel_rfl) (by exact fun _ _ _ h => h) (Or.inr ⟨by rfl, rfl⟩) (by assumption) ?_)); (try simp only [Act.put, List.setIfInBounds_toArray, List.set_cons_zero, List.set_cons_succ]))
          ((first | (refine wpAnyH_take (i := 10) (v := ?_) (by simp only [List.getElem?_toArray, List.getElem?_cons_succ, List.getElem?_cons_zero]; rfl) (by kernel_rfl) (by kernel_rfl) (by kernel_rfl) (by exact fun _ _ _ h => h) (Or.inl ⟨by rfl, ?_⟩) (by assumption) ?_; rotate_left 1; · (intro w hSw; (try dsimp only at hSw); go_simp; (try with_reducible rfl))) | (refine wpAnyH_take (i := 10) (v := undef) (by simp only [List.getElem?_toArray, List.getElem?_cons_succ, List.getElem?_cons_zero]; rfl) (by kernel_rfl) (by kernel_rfl) (by kernel_rfl) (by exact fun _ _ _ h => h) (Or.inr ⟨by rfl, rfl⟩) (by assumption) ?_)); (try simp only [Act.put, List.setIfInBounds_toArray, List.set_cons_zero, List.set_cons_succ]))
          ((first | (refine wpAnyH_take (i := 11) (v := ?_) (by simp only [List.getElem?_toArray, List.getElem?_cons_succ, List.getElem?_cons_zero]; rfl) (by kernel_rfl) (by kernel_rfl) (by kernel_rfl) (by exact fun _ _ _ h => h) (Or.inl ⟨by rfl, ?_⟩) (by assumption) ?_; rotate_left 1; · (intro w hSw; (try dsimp only at hSw); go_simp; (try with_reducible rfl))) | (refine wpAnyH_take (i := 11) (v := undef) (by simp only [List.getElem?_toArray, List.getElem?_cons_succ, List.getElem?_cons_zero]; rfl) (by kernel_rfl) (by kernel_rfl) (by kernel_rfl) (by exact fun _ _ _ h => h) (Or.inr ⟨by rfl, rfl⟩) (by assumption) ?_)); (try simp only [Act.put, List.setIfInBounds_toArray, List.set_cons_zero, List.set_cons_succ]))
          ((first | (refine wpAnyH_take (i := 12) (v := ?_) (by simp only [List.getElem?_toArray, List.getElem?_cons_succ, List.getElem?_cons_zero]; rfl) (by kernel_rfl) (by kernel_rfl) (by kernel_rfl) (by exact fun _ _ _ h => h) (Or.inl ⟨by rfl, ?_⟩) (by assumption) ?_; rotate_left 1; · (intro w hSw; (try dsimp only at hSw); go_simp; (try with_reducible rfl))) | (refine wpAnyH_take (i := 12) (v := undef) (by simp only [List.getElem?_toArray, List.getElem?_cons_succ, List.getElem?_cons_zero]; rfl) (by kernel_rfl) (by kernel_rfl) (by kernel_rfl) (by exact fun _ _ _ h => h) (Or.inr ⟨by rfl, rfl⟩) (by assumption) ?_)); (try simp only [Act.put, List.setIfInBounds_toArray, List.set_cons_zero, List.set_cons_succ]))
          ((first | (refine wpAnyH_take (i := 13) (v := ?_) (by simp only [List.getElem?_toArray, List.getElem?_cons_succ, List.getElem?_cons_zero]; rfl) (by kernel_rfl) (by kernel_rfl) (by kernel_rfl) (by exact fun _ _ _ h => h) (Or.inl ⟨by rfl, ?_⟩) (by assumption) ?_; rotate_left 1; · (intro w hSw; (try dsimp only at hSw); go_simp; (try with_reducible rfl))) | (refine wpAnyH_take (i := 13) (v := undef) (by simp only [List.getElem?_toArray, List.getElem?_cons_succ, List.getElem?_cons_zero]; rfl) (by kernel_rfl) (by kernel_rfl) (by kernel_rfl) (by exact fun _ _ _ h => h) (Or.inr ⟨by rfl, rfl⟩) (by assumption) ?_)); (try simp only [Act.put, List.setIfInBounds_toArray, List.set_cons_zero, List.set_cons_succ]))
          ((first | (refine wpAnyH_take (i := 14) (v := ?_) (by simp only [List.getElem?_toArray, List.getElem?_cons_succ, List.getElem?_cons_zero]; rfl) (by kernel_rfl) (by kernel_rfl) (by kernel_rfl) (by exact fun _ _ _ h => h) (Or.inl ⟨by rfl, ?_⟩) (by assumption) ?_; rotate_left 1; · (intro w hSw; (try dsimp only at hSw); go_simp; (try with_reducible rfl))) | (refine wpAnyH_take (i := 14) (v := undef) (by simp only [List.getElem?_toArray, List.getElem?_cons_succ, List.getElem?_cons_zero]; rfl) (by kernel_rfl) (by kernel_rfl) (by kernel_rfl) (by exact fun _ _ _ h => h) (Or.inr ⟨by rfl, rfl⟩) (by assumption) ?_)); (try simp only [Act.put, List.setIfInBounds_toArray, List.set_cons_zero, List.set_cons_succ]))
          ((first | (refine wpAnyH_take (i := 15) (v := ?_) (by simp only [List.getElem?_toArray, List.getElem?_cons_succ, List.getElem?_cons_zero]; rfl) (by kernel_rfl) (by kernel_rfl) (by kernel_rfl) (by exact fun _ _ _ h => h) (Or.inl ⟨by rfl, ?_⟩) (by assumption) ?_; rotate_left 1; · (intro w hSw; (try dsimp only at hSw); go_simp; (try with_reducible rfl))) | (refine wpAnyH_take (i := 15) (v := undef) (by simp only [List.getElem?_toArray, List.getElem?_cons_succ, List.getElem?_cons_zero]; rfl) (by kernel_rfl) (by kernel_rfl) (by kernel_rfl) (by exact fun _ _ _ h => h) (Or.inr ⟨by rfl, rfl⟩) (by assumption) ?_)); (try simp only [Act.put, List.setIfInBounds_toArray, List.set_cons_zero, List.set_cons_succ]))
          (refine wpAnyH_done (by kernel_rfl) ?_ _)
          go_wp2_with fail
          go_ret2
          rw [HFI.out]
          exact ⟨HBW.out.trans ((HBR.out.trans (hHeld.mono HBR.out.size)).mono HBW.out.size), rfl⟩
    · obtain rfl : j = M.length := by omega
      have HFI := Lib.hid (show R = some Lc by
        have := HREST.out
        rw [List.drop_length] at this
        exact this.symm)
      have hknow := (KnownAt.of_own hown hbw hct).2
      have HKC := Lib.hid hknow
      clear hknow hown hct hbw
      go_wp2_with fail
      go_ret2
      rw [HFI.out]
      exact ⟨HBW.out, A6, c6, by rw [HN.out]; rfl, HKC.out⟩
end Go.Proofs.YtihbmgkbipeakaaGreat
