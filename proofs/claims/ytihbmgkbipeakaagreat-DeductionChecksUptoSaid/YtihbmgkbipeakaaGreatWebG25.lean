/- Several texts in one: WebRl, WebRm. -/
import Derived.Test.YtihbmgkbipeakaaGreatWebG0
import Derived.Test.YtihbmgkbipeakaaGreatWebG24
namespace Go.Proofs.YtihbmgkbipeakaaGreat
open Go.RowKit

theorem without_step {l m : List T} {x : T} : withoutL l (x :: m) = match l.findIdx? (fun y => decide (T.cmp y x = 0)) with
  | none => none
  | some k => withoutL (l.eraseIdx k) m := rfl
/-- What without leaves. -/
def WithoutT (R : Option (List T)) (w : World) (e : Ending) (w' : World) : Prop := Below w.heap.size w w' ∧ match R with
  | none => e = .returned (.tuple #[.slice none 0 0, .bool false])
  | some L => ∃ A' cap', e = .returned (.tuple #[.slice A' L.length cap', .bool true]) ∧ KnownAt w' A' cap' L

set_option maxRecDepth 100000 in
set_option maxHeartbeats 8000000 in
theorem rwithout {L M : List T} {A A' : Option Addr} {cap cap' : Nat} (w : World) (h : KnownAt w A cap L) (h' : KnownAt w A' cap' M) (hb : ∀ x ∈ L, x.bulk ≤ 1048576) (hb' : ∀ x ∈ M, x.bulk ≤ 1048576) (hlen : L.length ≤ 1073741824) :
    Calls Tryz.prog 127 #[.slice A L.length cap, .slice A' M.length cap'] w (WithoutT (withoutL L M) w) := by
  obtain ⟨i0, hi0, hz0, hz1, hz2⟩ := info_parts Tryz.infoT
  obtain ⟨xs, hsrc, hct, hone⟩ := h.src'
  have hcap := h.cap_le
  have hcap' := h'.cap_le
  unfold maxLen at hcap hcap'
  obtain ⟨R, hR⟩ : ∃ R, withoutL L M = R := ⟨_, rfl⟩
  rw [hR]
  have HR := Lib.hid hR
  have HS := Lib.hid (hsrc.later (below_alloc1 w (.cells #[] 29))); have HCT := Lib.hid hct; have HONE := Lib.hid hone; have HK := Lib.hid h'; have HBK := Lib.hid hb; have HBK' := Lib.hid hb'
  have HE := Lib.hid (World.ownsRow_made (size := 3) (e := 29) w #[] 0 (base := w.heap.size) (Nat.le_refl _) (Nat.zero_le _) rfl)
  clear hsrc hct hone h h' hb hb' hR
  go_enter Tryz.func127, Tryz.ntmps127
  go_wp2_with (at_builtin; refine wpList_append_src _ rfl _ _ 27 rfl w.heap.size 29 i0 _ 3 48 Tryz.underlying27 hi0 hz0 hz1 hz2 rfl (by omega) _ 0 [] rfl HE.out _ L.length _ _ rfl HS.out HONE.out (by unfold maxLen; omega) (by omega) (by rw [size_alloc1]; omega) ?_; intro A7 c7 w7 hown7 hg7 hat7; simp only [Nat.zero_add, List.nil_append] at hown7 hg7 hat7 ⊢; have HOWN7 := Lib.hid hown7; have HB7 := Lib.hid (own_made_below hg7); clear hown7 hg7 hat7)
  go_loopw [6, 7] (fun s6 s7 wr => ∃ (j n : Nat) (Lc : List T) (A6 : Option Addr) (c6 : Nat) (xc : List Value), j ≤ M.length ∧ n = Lc.length ∧ s6 = .slice A6 n c6 ∧ s7 = .int .i64 j ∧ wr.ownsRow w.heap.size 29 3 (.slice A6 n c6) n xc ∧ CT (fun _ => true) w xc Lc ∧ Below w.heap.size w wr ∧ withoutL Lc (M.drop j) = R ∧ Lc.length ≤ L.length ∧ ∀ x ∈ Lc, x.bulk ≤ 1048576) (fun _ s7 _ => M.length - (intOf s7).toNat)
  case atStart => exact ⟨0, L.length, L, A7, c7, xs, Nat.zero_le _, rfl, rfl, rfl, HOWN7.out, HCT.out, HB7.out, HR.out, Nat.le_refl _, HBK.out⟩
  case round =>
    obtain ⟨j, n, Lc, A6, c6, xc, hj, hn, rfl, rfl, hown, hct, hbw, hrest, hln, hbc⟩ := hrel
    obtain ⟨wo, rfl⟩ : ∃ wo : World, wo = wr := ⟨_, rfl⟩
    have HN := Lib.hid hn
    have HOWN := Lib.hid hown; have HCTc := Lib.hid hct; have HBW := Lib.hid hbw; have HREST := Lib.hid hrest; have HBC := Lib.hid hbc
    have hnb : n ≤ 1073741824 := by omega
    clear hrest hbc
    by_cases hlt : j < M.length
    · have hji1 : (0 : Int) ≤ (j : Int) ∧ (j : Int) < (M.length : Int) := by omega
      obtain ⟨hji1, hji2⟩ := hji1
      have hknow := (KnownAt.of_own hown hbw hct).2
      have hcc := hknow.cap_le
      unfold maxLen at hcc
      have HKC := Lib.hid hknow
      have hM : ∀ W, Below wo.heap.size wo W → ∃ b off A1 c1, A' = some ⟨b, off, none⟩ ∧ W.cell? ⟨b, off + j * 3, none⟩ = some (.int .i64 (M[j]'(hlt)).kind) ∧ W.cell? ⟨b, off + j * 3 + 1, none⟩ = some (.string (M[j]'(hlt)).name) ∧
          W.cell? ⟨b, off + j * 3 + 2, none⟩ = some (.slice A1 (M[j]'(hlt)).kids.length c1) ∧ TermAt W (.agg #[.int .i64 (M[j]'(hlt)).kind, .string (M[j]'(hlt)).name, .slice A1 (M[j]'(hlt)).kids.length c1]) (M[j]'(hlt)) := fun W hbW => (HK.out.later (HBW.out.trans (hbW.mono HBW.out.size))).get hlt
      have hdrop : M.drop j = M[j]'(hlt) :: M.drop (j + 1) := List.drop_eq_getElem_cons hlt
      rw [hdrop] at HREST
      have hbm := HBK'.out (M[j]'(hlt)) (List.getElem_mem hlt)
      generalize M[j]'(hlt) = y at hM HREST hbm
      have HM := Lib.hid hM
      have HLT := Lib.hid hlt
      have HRS := Lib.hid HREST.out
      clear hM hdrop hown hct hbw hknow hlt HREST hn
      go_upto_region 6 with fail
      go_loopw [8] (fun s8 wr => ∃ k : Nat, k ≤ n ∧ s8 = .int .i64 k ∧ (∀ i (hi : i < Lc.length), i < k → T.cmp Lc[i] y ≠ 0) ∧ Below wo.heap.size wo wr) (fun s8 _ => n - (intOf s8).toNat)
      case atStart => exact ⟨0, Nat.zero_le _, rfl, fun i _ h => absurd h (by omega), Below.refl _ _⟩
      case round =>
        obtain ⟨k, hk, rfl, hz, hbr⟩ := hrel
        have HZ := Lib.hid hz; have HBR := Lib.hid hbr
        clear hz
        by_cases hkn : k < n
        · have hki : (0 : Int) ≤ (k : Int) ∧ (k : Int) < (n : Int) := by omega
          obtain ⟨hki1, hki2⟩ := hki
          have hkl : k < Lc.length := by have := HN.out; omega
          obtain ⟨b, off, A1, c1, rfl, d0, d1, d2, hu⟩ := (HKC.out.later hbr).get hkl
          obtain ⟨b', off', A2, c2, rfl, x0, x1, x2, hu'⟩ := HM.out _ hbr
          have HKN := Lib.hid hkn
          have hbx := HBC.out (Lc[k]'(hkl)) (List.getElem_mem hkl)
          have HCK := Lib.hid (show ∀ x, Lc[k]'(hkl) = x → T.cmp x y = 0 → Lc.findIdx? (fun z => decide (T.cmp z y = 0)) = some k from fun x hx h0 => by
            rw [List.findIdx?_eq_some_iff_getElem]
            exact ⟨hkl, by rw [hx]; exact decide_eq_true h0, fun i hi => by have := HZ.out i (by omega) hi; simpa using this⟩)
          obtain ⟨x, hx⟩ : ∃ x, Lc[k]'(hkl) = x := ⟨_, rfl⟩
          have HX := Lib.hid hx
          have HCK2 := Lib.hid (HCK.out x hx)
          rw [hx] at d0 d1 d2 hu hbx
          have HU := Lib.hid hu; have HU' := Lib.hid hu'
          have HS := Lib.hid (fun v v' W' (h1 : TermAt W' v x) (h2 : TermAt W' v' y) => rsame x y v v' W' h1 h2 hbx hbm)
          obtain ⟨q, hq⟩ : ∃ q, decide (T.cmp x y = 0) = q := ⟨_, rfl⟩
          rw [hq] at HS
          have HQ := Lib.hid hq
          clear hu hu' hbr hbx hq hx HCK
          go_upto_region 6 with fail
          (refine wp_region_held_drew (S := (fun Wq => Wq.cell? ⟨b, off + k * 3, none⟩ = some (.int .i64 x.kind) ∧ Wq.cell? ⟨b, off + k * 3 + 1, none⟩ = some (.string x.name) ∧ Wq.cell? ⟨b, off + k * 3 + 2, none⟩ = some (.slice A1 x.kids.length c1) ∧ Wq.cell? ⟨b', off' + j * 3, none⟩ = some (.int .i64 y.kind) ∧ Wq.cell? ⟨b', off' + j * 3 + 1, none⟩ = some (.string y.name) ∧ Wq.cell? ⟨b', off' + j * 3 + 2, none⟩ = some (.slice A2 y.kids.length c2) ∧ Below wr.heap.size wr Wq)) (by kernel_rfl) (show _ ∧ _ ∧ _ ∧ _ ∧ _ ∧ _ ∧ _ from ⟨d0, d1, d2, x0, x1, x2, (Below.refl _ wr).drew⟩) (fun hHeld => ?_))
          (refine tkJ 0 _ (h := ?_))
          (refine tkJ 1 _ (h := ?_))
          (refine tkJ 2 _ (h := ?_))
          (refine tkJ 3 _ (h := ?_))
          (refine tkJ 4 _ (h := ?_))
          (first | (refine tkJ 5 _ (h := ?_)) | (refine tkM 5 (h := ?_)))
          (first | (refine tkJ 6 _ (h := ?_)) | (refine tkM 6 (h := ?_)))
          (first | (refine tkJ 7 _ (h := ?_)) | (refine tkM 7 (h := ?_)))
          (first | (refine tkJ 8 _ (h := ?_)) | (refine tkM 8 (h := ?_)))
          (first | (refine tkJ 9 _ (h := ?_)) | (refine tkM 9 (h := ?_)))
          (first | (refine tkJ 10 _ (h := ?_)) | (refine tkM 10 (h := ?_)))
          (first | (refine tkJ 11 _ (h := ?_)) | (refine tkM 11 (h := ?_)))
          (first | (refine tkJ 12 _ (h := ?_)) | (refine tkM 12 (h := ?_)))
          (refine rdJ 13 (h := fun K hK => ?_); go_simp; go_at_call 25; refine (HS.out _ _ _ (HU.out.later hHeld.2.2.2.2.2.2) (HU'.out.later hHeld.2.2.2.2.2.2)).mono ?_; rintro e wz ⟨rfl, hb4⟩; refine shK hK (held6 hHeld hb4) (h := fun hHeld => ?_); clear hK K)
          (first | (refine tkJ 14 _ (h := ?_)) | (refine tkM 14 (h := ?_)))
          (refine tkJ 15 _ (h := ?_))
          (refine wpAnyH_done (by kernel_rfl) ?_ _)
          cases q with
          | true =>
            have HFI := Lib.hid (HCK2.out (of_decide_eq_true HQ.out))
            obtain ⟨wq, hwq⟩ : ∃ wq, wz.drew = wq := ⟨_, rfl⟩
            have HB9 := Lib.hid (show Below wo.heap.size wo wq by rw [← hwq]; exact (HBR.out.trans (hHeld.2.2.2.2.2.2.mono HBR.out.size)).drew)
            have HWQ := Lib.hid hwq
            have hne : ¬ (k : Int) = (n : Int) := by omega
            have hown9 := own_later HOWN.out HB9.out
            have hcn : n ≤ c6 := by have := HN.out; omega
            have hsr := (Src.of_own hown9).cut (k := k + 1) hkn hcn
            have HOT := Lib.hid (own_take' hown9 hk)
            have HO3 := Lib.hid (show ∀ u ∈ xc.drop ((k + 1) * 3), u.oneCell' = true from fun u hu => HCTc.out.one' u (List.mem_of_mem_drop hu))
            have hwr : IntKind.i64.wrap ((k : Int) + 1) = ((k + 1 : Nat) : Int) := by rw [IntWalk.i64_in _ (by omega)]; omega
            have hk1 : ((k + 1 : Nat) : Int) ≤ (n : Int) := by omega
            have hk2 : (k : Int) ≤ (c6 : Int) := by omega
            have hk5 : (k : Int) ≤ (k : Int) + 1 := by omega
            have hk6 : (k : Int) + 1 ≤ (n : Int) := by omega
            have hk7 : (0 : Int) ≤ (k : Int) + 1 := by omega
            have hk3 : (n : Int) ≤ (c6 : Int) := by omega
            have hk4 : (0 : Int) ≤ ((k + 1 : Nat) : Int) := by omega
            have HHB := Lib.hid (show w.heap.size ≤ wq.heap.size by have := HBW.out.size; have := HB9.out.size; omega)
            have HNEW := Lib.hid (show ∀ m, m = n - (k + 1) → ∀ A8 c8 w8, w8.ownsRow w.heap.size 29 3 (.slice A8 (k + m) c8) (k + m) (xc.take (k * 3) ++ xc.drop ((k + 1) * 3)) → wq.grownBy w8 (Value.slice (some ⟨b, off, none⟩) k c6).ownBlock →
                ∃ (n' : Nat) (Lc' : List T), n' = Lc'.length ∧ k + m = n' ∧ CT (fun _ => true) w (xc.take (k * 3) ++ xc.drop ((k + 1) * 3)) Lc' ∧ Below w.heap.size w w8 ∧ withoutL Lc' (M.drop (j + 1)) = R ∧ Lc'.length ≤ L.length ∧ ∀ x ∈ Lc', x.bulk ≤ 1048576 from fun m hm A8 c8 w8 hown8 hg8 => by
              have he := List.length_eraseIdx_of_lt (l := Lc) (i := k) (by have := HN.out; omega)
              refine ⟨k + m, Lc.eraseIdx k, by have := HN.out; omega, rfl, HCTc.out.erase k, ?_, ?_, by omega, fun x hx => HBC.out x ((List.eraseIdx_sublist Lc k).subset hx)⟩
              · exact (HBW.out.trans (HB9.out.mono HBW.out.size)).grown hg8 HHB.out (fun b hb => (HOT.out.lt b hb).1)
              · have := HRS.out
                rw [without_step, HFI.out] at this
                exact this)
            by_cases hck : c6 = k + 1
            · subst hck
              rw [if_pos rfl, show n - (k + 1) = 0 by omega] at hsr
              have HM0 := Lib.hid (show 0 = n - (k + 1) by omega)
              have HS3 := Lib.hid hsr
              clear hsr hown9 hwq
              go_wp2_with fail
              go_upto_region 10 with fail
              go_still_tail 7, (by kernel_rfl)
              change wpList _ _ _ _ _ wz.drew
              rw [HWQ.out]
              go_wp2_with (at_builtin; refine wpList_append_src _ rfl (.tmp 42) (.tmp 46) 27 rfl w.heap.size 29 i0 _ 3 48 Tryz.underlying27 hi0 hz0 hz1 hz2 rfl (by omega) _ k _ rfl HOT.out _ 0 _ _ rfl HS3.out HO3.out (by unfold maxLen; omega) (by omega) HHB.out ?_; intro A8 c8 w8 hown8 hg8 hat8; obtain ⟨n', Lc', hn1, hn2, hc1, hb1, hr1, hl1, hbk1⟩ := HNEW.out _ HM0.out A8 c8 w8 hown8 hg8; rw [hn2] at hown8 ⊢; have HFX := Lib.hid (And.intro hn1 (And.intro hown8 (And.intro hc1 (And.intro hb1 (And.intro hr1 (And.intro hl1 hbk1)))))); clear hn1 hn2 hc1 hb1 hr1 hl1 hbk1 hown8 hg8 hat8 HNEW)
              go_roundw
              case rel => exact ⟨j + 1, n', Lc', A8, c8, _, HLT.out, HFX.out.1, rfl, by go_num, HFX.out.2.1, HFX.out.2.2.1, HFX.out.2.2.2.1, HFX.out.2.2.2.2.1, HFX.out.2.2.2.2.2.1, HFX.out.2.2.2.2.2.2⟩
              case measure => have := HLT.out; simp [intOf]; omega
            · have hck' : ¬ (c6 : Int) = ((k + 1 : Nat) : Int) := by omega
              rw [if_neg hck] at hsr
              simp only [Option.map_some] at hsr
              have HS3 := Lib.hid hsr
              clear hsr hown9 hwq
              go_wp2_with fail
              go_upto_region 10 with fail
              go_still_tail 7, (by kernel_rfl)
              change wpList _ _ _ _ _ wz.drew
              rw [HWQ.out]
              go_wp2_with (at_builtin; refine wpList_append_src _ rfl (.tmp 42) (.tmp 46) 27 rfl w.heap.size 29 i0 _ 3 48 Tryz.underlying27 hi0 hz0 hz1 hz2 rfl (by omega) _ k _ rfl HOT.out _ (n - (k + 1)) _ _ rfl HS3.out HO3.out (by unfold maxLen; omega) (by omega) HHB.out ?_; intro A8 c8 w8 hown8 hg8 hat8; obtain ⟨n', Lc', hn1, hn2, hc1, hb1, hr1, hl1, hbk1⟩ := HNEW.out _ rfl A8 c8 w8 hown8 hg8; rw [hn2] at hown8 ⊢; have HFX := Lib.hid (And.intro hn1 (And.intro hown8 (And.intro hc1 (And.intro hb1 (And.intro hr1 (And.intro hl1 hbk1)))))); clear hn1 hn2 hc1 hb1 hr1 hl1 hbk1 hown8 hg8 hat8 HNEW)
              go_roundw
              case rel => exact ⟨j + 1, n', Lc', A8, c8, _, HLT.out, HFX.out.1, rfl, by go_num, HFX.out.2.1, HFX.out.2.2.1, HFX.out.2.2.2.1, HFX.out.2.2.2.2.1, HFX.out.2.2.2.2.2.1, HFX.out.2.2.2.2.2.2⟩
              case measure => have := HLT.out; simp [intOf]; omega
          | false =>
            go_wp2_with fail
            go_roundw
            case rel =>
              refine ⟨k + 1, HKN.out, by go_num, fun i hi hik => ?_, HBR.out.trans (hHeld.2.2.2.2.2.2.mono HBR.out.size)⟩
              by_cases e : i = k
              · subst e; rw [HX.out]; exact of_decide_eq_false HQ.out
              · exact HZ.out i hi (by omega)
            case measure => have := HKN.out; simp [intOf]; omega
        · obtain rfl : k = n := by omega
          have HFI := Lib.hid (show R = none by
            rw [← HRS.out, without_step, List.findIdx?_eq_none_iff.2 (fun x hx => by
              obtain ⟨i, hi, e⟩ := List.getElem_of_mem hx
              have := HZ.out i hi (by have := HN.out; omega)
              rw [e] at this; simpa using this)])
          go_upto_region 6 with fail
          (refine wp_region_held_drew (S := (fun Wq => Below wr.heap.size wr Wq)) (by kernel_rfl) ((Below.refl _ wr).drew) (fun hHeld => ?_))
          (refine tkJ 0 _ (h := ?_))
          (refine tkJ 1 _ (h := ?_))
          (refine tkJ 2 _ (h := ?_))
          (refine tkJ 3 _ (h := ?_))
          (refine tkJ 4 _ (h := ?_))
          (first | (refine tkJ 5 _ (h := ?_)) | (refine tkM 5 (h := ?_)))
          (first | (refine tkJ 6 _ (h := ?_)) | (refine tkM 6 (h := ?_)))
          (first | (refine tkJ 7 _ (h := ?_)) | (refine tkM 7 (h := ?_)))
          (first | (refine tkJ 8 _ (h := ?_)) | (refine tkM 8 (h := ?_)))
          (first | (refine tkJ 9 _ (h := ?_)) | (refine tkM 9 (h := ?_)))
          (first | (refine tkJ 10 _ (h := ?_)) | (refine tkM 10 (h := ?_)))
          (first | (refine tkJ 11 _ (h := ?_)) | (refine tkM 11 (h := ?_)))
          (first | (refine tkJ 12 _ (h := ?_)) | (refine tkM 12 (h := ?_)))
          (first | (refine tkJ 13 _ (h := ?_)) | (refine tkM 13 (h := ?_)))
          (first | (refine tkJ 14 _ (h := ?_)) | (refine tkM 14 (h := ?_)))
          (refine tkJ 15 _ (h := ?_))
          (refine wpAnyH_done (by kernel_rfl) ?_ _)
          go_wp2_with fail
          go_ret2
          rw [HFI.out]
          exact ⟨HBW.out.trans ((HBR.out.trans (hHeld.mono HBR.out.size)).mono HBW.out.size), rfl⟩
    · obtain rfl : j = M.length := by omega
      have HFI := Lib.hid (show R = some Lc by
        have := HREST.out
        rw [List.drop_length] at this
        exact this.symm)
      have hknow := (KnownAt.of_own hown hbw hct).2
      have HKC := Lib.hid hknow
      clear hknow hown hct hbw
      go_wp2_with fail
      go_ret2
      rw [HFI.out]
      exact ⟨HBW.out, A6, c6, by rw [HN.out]; rfl, HKC.out⟩
end Go.Proofs.YtihbmgkbipeakaaGreat

namespace Go.Proofs.YtihbmgkbipeakaaGreat
open Go.RowKit

/-- Does a power of the list serve. -/
def rpow1 (L : List T) (t p : T) : Bool := decide (p.kind = 7) && match withoutL t.kids p.kids with
  | none => false
  | some r => r.all (hasL L)
theorem rpow_eq (L : List T) (t : T) : rpowL L t = (L.any (rpow1 L t) || t.kids.all (hasL L)) := rfl
theorem rpow_any {L : List T} {t : T} {j : Nat} (h : j < L.length) (h1 : rpow1 L t L[j] = true) : rpowL L t = true := by
  rw [rpow_eq, Bool.or_eq_true]
  exact .inl (List.any_eq_true.2 ⟨_, List.getElem_mem h, h1⟩)
theorem rpow_none {L : List T} {t : T} (h : ∀ i (hi : i < L.length), rpow1 L t L[i] = false) (h' : t.kids.all (hasL L) = false) : rpowL L t = false := by
  rw [rpow_eq, h', Bool.or_false, List.any_eq_false]
  intro x hx
  obtain ⟨i, hi, rfl⟩ := List.getElem_of_mem hx
  rw [h i hi]; decide
theorem all_take {p : T → Bool} {R : List T} {k : Nat} (h : k < R.length) : (R.take (k + 1)).all p = ((R.take k).all p && p R[k]) := by
  rw [List.take_succ_eq_append_getElem h, List.all_append]
  simp
theorem all_false {p : T → Bool} {R : List T} {k : Nat} (h : (R.take k).all p = false) : R.all p = false := by
  cases hh : R.all p with
  | false => rfl
  | true =>
    rw [List.all_eq_true] at hh
    have : (R.take k).all p = true := List.all_eq_true.2 fun x hx => hh x (List.mem_of_mem_take hx)
    rw [this] at h; cases h
theorem TermAt.kids_known {w : World} {t : T} {A : Option Addr} {c : Nat} (h : TermAt w (.agg #[.int .i64 t.kind, .string t.name, .slice A t.kids.length c]) t) : KnownAt w A c t.kids := by
  obtain ⟨A', c', U, e, h1, h2, h3, h4⟩ := TermAt.inv h
  injection e with e; injection e with e; injection e with _ e; injection e with _ e; injection e with e _
  injection e with e1 _ e3
  subst e1; subst e3
  exact TermAt.mk 0 ⟨#[]⟩ A c t.kids U (by decide) (by decide) h1 h2 h3 h4
theorem kids_bulk {t : T} (hb : t.bulk ≤ 1048576) : ∀ x ∈ t.kids, x.bulk ≤ 1048576 := fun x hx => by
  obtain ⟨i, hi, rfl⟩ := List.getElem_of_mem hx
  have := T.bulk_at t.kids i hi
  have := t.bulk_eq
  omega
theorem kids_len {t : T} (hb : t.bulk ≤ 1048576) : t.kids.length ≤ 1048576 := by
  have := T.len_le t.kids; have := t.bulk_eq; omega

set_option maxRecDepth 100000 in
set_option maxHeartbeats 8000000 in
theorem rpower {L : List T} {A : Option Addr} {cap : Nat} {t : T} {v : Value} (w : World) (h : KnownAt w A cap L) (hT : TermAt w v t) (hb : ∀ x ∈ L, x.bulk ≤ 1048576) (hbt : t.bulk ≤ 1048576) (hlen : L.length ≤ 1073741824) :
    Calls Tryz.prog 93 #[.slice A L.length cap, v] w fun e w' => e = .returned (.bool (rpowL L t)) ∧ Below w.heap.size w w' := by
  obtain ⟨At, ct, rfl⟩ := hT.inAll.view
  have hw := below_alloc1 w (.cells #[.int .i64 t.kind, .string t.name, .slice At t.kids.length ct] 29)
  have bx := Box.new w (.int .i64 t.kind) (.string t.name) (.slice At t.kids.length ct)
  have HK := Lib.hid (h.later hw); have HT := Lib.hid ((TermAt.kids_known hT).later hw); have HW := Lib.hid hw; have HBK := Lib.hid hb
  have HTB := Lib.hid (kids_bulk hbt)
  have hkl := kids_len hbt
  have hcap := h.cap_le
  unfold maxLen at hcap
  have HHAS := Lib.hid (fun W x v' (h1 : KnownAt W A cap L) (h2 : TermAt W v' x) (h3 : x.bulk ≤ 1048576) => rhasT W h1 h2 hb h3)
  clear h hT hw hb
  go_enter Tryz.func93, Tryz.ntmps93
  go_upto_region 1 with fail
  generalize w.alloc (.cells #[.int .i64 t.kind, .string t.name, .slice At t.kids.length ct] 29) = w1 at bx HK HT HW ⊢
  have BX := Lib.hid bx
  clear bx
  obtain ⟨nk, hnk⟩ : ∃ nk, t.kids.length = nk := ⟨_, rfl⟩
  have HNK := Lib.hid hnk
  rw [hnk] at BX
  clear hnk
  go_upto_region 2 with fail
  go_loopw [5] (fun s5 wr => ∃ j : Nat, j ≤ L.length + 1 ∧ s5 = .int .i64 j ∧ (∀ i (hi : i < L.length), i < j → rpow1 L t L[i] = false) ∧ (j = L.length + 1 → t.kids.all (hasL L) = false) ∧ Below w1.heap.size w1 wr) (fun s5 _ => L.length + 1 - (intOf s5).toNat)
  case atStart => exact ⟨0, Nat.zero_le _, rfl, fun i _ h => absurd h (by omega), fun h => absurd h (by omega), Below.refl _ _⟩
  case round =>
    obtain ⟨j, hj, rfl, hz, hl, hbw⟩ := hrel
    obtain ⟨wo, rfl⟩ : ∃ wo : World, wo = wr := ⟨_, rfl⟩
    have HZ := Lib.hid hz; have HL := Lib.hid hl; have HBW := Lib.hid hbw
    have HKr := Lib.hid (HK.out.later hbw); have HTr := Lib.hid (HT.out.later hbw)
    obtain ⟨x0, x1, x2⟩ := (BX.out.later hbw).cells
    clear hz hl hbw
    by_cases hle : j ≤ L.length
    · have hji : (0 : Int) ≤ (j : Int) ∧ (j : Int) ≤ (L.length : Int) := by omega
      obtain ⟨hji1, hji2⟩ := hji
      have HLE := Lib.hid hle
      by_cases hlt : j < L.length
      · have hlt' : (j : Int) < (L.length : Int) := by omega
        obtain ⟨b, off, A1, c1, rfl, d0, d1, d2, hu⟩ := HKr.out.get hlt
        have HLT := Lib.hid hlt
        have HREL := Lib.hid (show rpow1 L t (L[j]'(hlt)) = false → ∀ W, Below wo.heap.size wo W → (∀ i (hi : i < L.length), i < j + 1 → rpow1 L t L[i] = false) ∧ (j + 1 = L.length + 1 → t.kids.all (hasL L) = false) ∧ Below w1.heap.size w1 W from fun h1 W hbW => ⟨fun i hi hij => by
          by_cases e : i = j
          · subst e; exact h1
          · exact HZ.out i hi (by omega), fun e => by omega, HBW.out.trans (hbW.mono HBW.out.size)⟩)
        have HYES1 := Lib.hid (show rpow1 L t (L[j]'(hlt)) = true → rpowL L t = true from rpow_any hlt)
        have hbx := HBK.out (L[j]'(hlt)) (List.getElem_mem hlt)
        generalize L[j]'(hlt) = y at d0 d1 d2 hu hbx HREL HYES1
        have HU := Lib.hid hu.kids_known
        by_cases h7 : y.kind = 7
        · have h7' : ((y.kind : Int) == 7) = true := beq_iff_eq.2 h7
          obtain ⟨ny, hny⟩ : ∃ ny, y.kids.length = ny := ⟨_, rfl⟩
          have HWO := Lib.hid (fun W (h1 : KnownAt W At ct t.kids) (h2 : KnownAt W A1 c1 y.kids) => rwithout W h1 h2 HTB.out (kids_bulk hbx) (by omega))
          have HU' := HU
          rw [HNK.out, hny] at HWO
          rw [h7] at d0
          rw [hny] at d2
          have hx2 := x2
          have hp1 : rpow1 L t y = match withoutL t.kids y.kids with
            | none => false
            | some r => r.all (hasL L) := by unfold rpow1; rw [decide_eq_true h7, Bool.true_and]
          rw [hp1] at HREL HYES1
          clear hp1 hu h7 h7' hx2
          cases hwo : withoutL t.kids y.kids with
          | none =>
            rw [hwo] at HWO HREL
            replace HREL := Lib.hid (HREL.out rfl)
            clear hwo HYES1
            go_upto_region 8 with fail
            (refine wp_region_held_drew (S := (fun Wq => Wq.cell? ⟨w.heap.size, 2, none⟩ = some (.slice At nk ct) ∧ Wq.cell? ⟨b, off + j * 3 + 2, none⟩ = some (.slice A1 ny c1) ∧ Below wo.heap.size wo Wq)) (by kernel_rfl) (show _ ∧ _ ∧ _ from ⟨x2, d2, (Below.refl _ wo).drew⟩) (fun hHeld => ?_))
            (refine tkJ 0 _ (h := ?_))
            (refine tkJ 1 _ (h := ?_))
            (refine tkJ 2 _ (h := ?_))
            (refine tkJ 3 _ (h := ?_))
            (refine tkJ 4 _ (h := ?_))
            (refine tkJ 5 _ (h := ?_))
            (refine tkJ 6 _ (h := ?_))
            (refine rdJ 7 (h := fun K hK => ?_); go_simp; go_at_call 127; refine (HWO.out _ (HTr.out.later hHeld.2.2) (HU.out.later hHeld.2.2)).mono ?_; rintro e wz ⟨hb4, rfl⟩; refine shK hK (held2 hHeld hb4) (h := fun hHeld => ?_); clear hK K)
            (refine tkJ 8 _ (h := ?_))
            (refine tkJ 9 _ (h := ?_))
            (refine tkJ 10 _ (h := ?_))
            (refine tkJ 11 _ (h := ?_))
            (refine tkJ 12 _ (h := ?_))
            (refine wpAnyH_done (by kernel_rfl) ?_ _)
            have HBZ := Lib.hid hHeld.2.2
            go_upto_region 10 with fail
            go_loopw [8, 7] (fun s8 s7 wr => s8 = .int .i64 0 ∧ s7 = .bool false ∧ Below wz.heap.size wz wr) (fun s8 _ _ => 1)
            case atStart => exact ⟨rfl, rfl, Below.refl _ _⟩
            case round =>
              obtain ⟨rfl, rfl, hbr⟩ := hrel
              have HBR := Lib.hid hbr
              clear hbr
              go_wp2_with fail
              go_roundw
              case rel => exact ⟨j + 1, Nat.succ_le_succ HLE.out, by go_num, HREL.out _ (HBZ.out.trans (HBR.out.mono HBZ.out.size))⟩
              case measure => have := HLE.out; simp [intOf] <;> omega
          | some RL =>
            rw [hwo] at HWO HREL HYES1
            obtain ⟨nr, hnr⟩ : ∃ nr, RL.length = nr := ⟨_, rfl⟩
            have HNR := Lib.hid hnr.symm
            have hnrb : nr ≤ 1048576 := by have := (without_some hwo).length_eq; rw [List.length_append] at this; omega
            have HRB := Lib.hid (show ∀ x ∈ RL, x.bulk ≤ 1048576 from fun x hx => HTB.out x ((without_some hwo).mem_iff.2 (List.mem_append_right _ hx)))
            have HFALSE := Lib.hid (fun hf W hW => (show ∃ j' : Nat, j' ≤ L.length + 1 ∧ Value.int .i64 ((j : Int) + 1) = .int .i64 j' ∧ (∀ i (hi : i < L.length), i < j' → rpow1 L t L[i] = false) ∧ (j' = L.length + 1 → t.kids.all (hasL L) = false) ∧ Below w1.heap.size w1 W from ⟨j + 1, Nat.succ_le_succ hle, rfl, HREL.out hf W hW⟩))
            have HYES := HYES1
            clear hwo HYES1 HREL hny
            go_upto_region 8 with fail
            (refine wp_region_held_drew (S := (fun Wq => Wq.cell? ⟨w.heap.size, 2, none⟩ = some (.slice At nk ct) ∧ Wq.cell? ⟨b, off + j * 3 + 2, none⟩ = some (.slice A1 ny c1) ∧ Below wo.heap.size wo Wq)) (by kernel_rfl) (show _ ∧ _ ∧ _ from ⟨x2, d2, (Below.refl _ wo).drew⟩) (fun hHeld => ?_))
            (refine tkJ 0 _ (h := ?_))
            (refine tkJ 1 _ (h := ?_))
            (refine tkJ 2 _ (h := ?_))
            (refine tkJ 3 _ (h := ?_))
            (refine tkJ 4 _ (h := ?_))
            (refine tkJ 5 _ (h := ?_))
            (refine tkJ 6 _ (h := ?_))
            (refine rdJ 7 (h := fun K hK => ?_); go_simp; go_at_call 127; refine (HWO.out _ (HTr.out.later hHeld.2.2) (HU.out.later hHeld.2.2)).mono ?_; rintro e wz ⟨hb4, A6, c6, rfl, hk6⟩; refine shK hK (held2 hHeld hb4) (h := fun hHeld => ?_); clear hK K)
            (refine tkJ 8 _ (h := ?_))
            (refine tkJ 9 _ (h := ?_))
            (refine tkJ 10 _ (h := ?_))
            (refine tkJ 11 _ (h := ?_))
            (refine tkJ 12 _ (h := ?_))
            (refine wpAnyH_done (by kernel_rfl) ?_ _)
            have HBZ := Lib.hid hHeld.2.2; have HRL := Lib.hid hk6
            clear hk6
            rw [hnr]
            clear hnr
            go_upto_region 10 with fail
            go_loopw [8, 7] (fun s8 s7 wr => ∃ (k : Nat) (q : Bool), k ≤ nr ∧ s8 = .int .i64 k ∧ s7 = .bool q ∧ q = (RL.take k).all (hasL L) ∧ Below wz.heap.size wz wr) (fun s8 _ _ => nr - (intOf s8).toNat)
            case atStart => exact ⟨0, true, Nat.zero_le _, rfl, rfl, rfl, Below.refl _ _⟩
            case round =>
              obtain ⟨k, q, hk, rfl, rfl, hq, hbr⟩ := hrel
              have HQ := Lib.hid hq; have HBR := Lib.hid hbr
              cases q with
              | false =>
                have HAF := Lib.hid (HFALSE.out (all_false hq.symm))
                clear hq hbr
                by_cases hkn : k < nr
                · have hkn' : (k : Int) < (nr : Int) := by omega
                  go_wp2_with fail
                  go_roundw
                  case rel => exact HAF.out _ (HBZ.out.trans (HBR.out.mono HBZ.out.size))
                  case measure => have := HLE.out; simp [intOf] <;> omega
                · have hkn' : ¬ (k : Int) < (nr : Int) := by omega
                  go_wp2_with fail
                  go_roundw
                  case rel => exact HAF.out _ (HBZ.out.trans (HBR.out.mono HBZ.out.size))
                  case measure => have := HLE.out; simp [intOf] <;> omega
              | true =>
                by_cases hkn : k < nr
                · have hki : (0 : Int) ≤ (k : Int) ∧ (k : Int) < (nr : Int) := by omega
                  obtain ⟨hki1, hki2⟩ := hki
                  have hkr : k < RL.length := by have := HNR.out; omega
                  obtain ⟨b2, off2, A2, c2, hA2, e0, e1, e2, hu2⟩ := (HRL.out.later hbr).get hkr
                  have hat := all_take (p := hasL L) hkr
                  rw [← hq, Bool.true_and] at hat
                  have hyb := HRB.out _ (List.getElem_mem hkr)
                  generalize RL[k]'(hkr) = y at e0 e1 e2 hu2 hat hyb
                  have HAT := Lib.hid hat; have HU2 := Lib.hid hu2; have HKN := Lib.hid hkn
                  have HKz := Lib.hid (HKr.out.later (HBZ.out.trans (hbr.mono HBZ.out.size)))
                  clear hq hbr hat hu2 hkn hkr
                  subst hA2
                  go_wp2_with fail
                  refine (HHAS.out _ y _ HKz.out HU2.out hyb).mono ?_; rintro e w5 ⟨rfl, hb5⟩
                  have HB5 := Lib.hid (HBR.out.trans (hb5.mono HBR.out.size))
                  clear hb5
                  go_wp2_with fail
                  go_roundw
                  case rel => exact ⟨k + 1, _, HKN.out, by go_num, rfl, HAT.out.symm, HB5.out⟩
                  case measure => have := HKN.out; simp [intOf] <;> omega
                · obtain rfl : k = nr := by omega
                  have HTRUE := Lib.hid (show RL.all (hasL L) = true by
                    have := HQ.out
                    rw [HNR.out, List.take_length] at this
                    exact this.symm)
                  clear hq hbr
                  go_wp2_with fail
                  go_ret
                  exact ⟨ret_bool (HYES.out HTRUE.out).symm, HW.out.trans (((HBW.out.trans (HBZ.out.mono HBW.out.size)).trans (HBR.out.mono (Nat.le_trans HBW.out.size HBZ.out.size))).mono HW.out.size)⟩
        · have h7' : ((y.kind : Int) == 7) = false := beq_eq_false_iff_ne.2 h7
          have HREL2 := Lib.hid (HREL.out (by unfold rpow1; rw [decide_eq_false h7]; rfl))
          clear HREL HYES1 hu
          go_wp2_with fail
          go_roundw
          case rel => exact ⟨j + 1, Nat.succ_le_succ HLE.out, by go_num, HREL2.out _ (Below.refl _ _)⟩
          case measure => have := HLE.out; simp [intOf] <;> omega
      · obtain rfl : j = L.length := by omega
        have HFALSE := Lib.hid (fun (hf : t.kids.all (hasL L) = false) W (hW : Below wo.heap.size wo W) => (show ∃ j' : Nat, j' ≤ L.length + 1 ∧ Value.int .i64 ((L.length : Int) + 1) = .int .i64 j' ∧ (∀ i (hi : i < L.length), i < j' → rpow1 L t L[i] = false) ∧ (j' = L.length + 1 → t.kids.all (hasL L) = false) ∧ Below w1.heap.size w1 W from ⟨L.length + 1, Nat.le_refl _, rfl, fun i hi _ => HZ.out i hi hi, fun _ => hf, HBW.out.trans (hW.mono HBW.out.size)⟩))
        have HYES := Lib.hid (show t.kids.all (hasL L) = true → rpowL L t = true from fun h => by rw [rpow_eq, h, Bool.or_true])
        have HNR := Lib.hid HNK.out.symm
        have hnrb : nk ≤ 1048576 := by have := HNK.out; omega
        have HRB := HTB
        have HRL := HTr
        have HBZ := Lib.hid (Below.refl wo.heap.size wo)
        clear hlt
        go_upto_region 10 with fail
        go_loopw [8, 7] (fun s8 s7 wr => ∃ (k : Nat) (q : Bool), k ≤ nk ∧ s8 = .int .i64 k ∧ s7 = .bool q ∧ q = (t.kids.take k).all (hasL L) ∧ Below wo.heap.size wo wr) (fun s8 _ _ => nk - (intOf s8).toNat)
        case atStart => exact ⟨0, true, Nat.zero_le _, rfl, rfl, rfl, Below.refl _ _⟩
        case round =>
          obtain ⟨k, q, hk, rfl, rfl, hq, hbr⟩ := hrel
          have HQ := Lib.hid hq; have HBR := Lib.hid hbr
          cases q with
          | false =>
            have HAF := Lib.hid (HFALSE.out (all_false hq.symm))
            clear hq hbr
            by_cases hkn : k < nk
            · have hkn' : (k : Int) < (nk : Int) := by omega
              go_wp2_with fail
              go_roundw
              case rel => exact HAF.out _ (HBZ.out.trans (HBR.out.mono HBZ.out.size))
              case measure => have := HLE.out; simp [intOf] <;> omega
            · have hkn' : ¬ (k : Int) < (nk : Int) := by omega
              go_wp2_with fail
              go_roundw
              case rel => exact HAF.out _ (HBZ.out.trans (HBR.out.mono HBZ.out.size))
              case measure => have := HLE.out; simp [intOf] <;> omega
          | true =>
            by_cases hkn : k < nk
            · have hki : (0 : Int) ≤ (k : Int) ∧ (k : Int) < (nk : Int) := by omega
              obtain ⟨hki1, hki2⟩ := hki
              have hkr : k < t.kids.length := by have := HNR.out; omega
              obtain ⟨b2, off2, A2, c2, hA2, e0, e1, e2, hu2⟩ := (HRL.out.later hbr).get hkr
              have hat := all_take (p := hasL L) hkr
              rw [← hq, Bool.true_and] at hat
              have hyb := HRB.out _ (List.getElem_mem hkr)
              generalize t.kids[k]'(hkr) = y at e0 e1 e2 hu2 hat hyb
              have HAT := Lib.hid hat; have HU2 := Lib.hid hu2; have HKN := Lib.hid hkn
              have HKz := Lib.hid (HKr.out.later (HBZ.out.trans (hbr.mono HBZ.out.size)))
              clear hq hbr hat hu2 hkn hkr
              subst hA2
              go_wp2_with fail
              refine (HHAS.out _ y _ HKz.out HU2.out hyb).mono ?_; rintro e w5 ⟨rfl, hb5⟩
              have HB5 := Lib.hid (HBR.out.trans (hb5.mono HBR.out.size))
              clear hb5
              go_wp2_with fail
              go_roundw
              case rel => exact ⟨k + 1, _, HKN.out, by go_num, rfl, HAT.out.symm, HB5.out⟩
              case measure => have := HKN.out; simp [intOf] <;> omega
            · obtain rfl : k = nk := by omega
              have HTRUE := Lib.hid (show t.kids.all (hasL L) = true by
                have := HQ.out
                rw [HNR.out, List.take_length] at this
                exact this.symm)
              clear hq hbr
              go_wp2_with fail
              go_ret
              exact ⟨ret_bool (HYES.out HTRUE.out).symm, HW.out.trans (((HBW.out.trans (HBZ.out.mono HBW.out.size)).trans (HBR.out.mono (Nat.le_trans HBW.out.size HBZ.out.size))).mono HW.out.size)⟩
    · obtain rfl : j = L.length + 1 := by omega
      have HNO := Lib.hid (rpow_none (fun i hi => HZ.out i hi (by omega)) (HL.out rfl))
      go_wp2_with fail
      go_ret
      exact ⟨ret_bool HNO.out.symm, HW.out.trans (HBW.out.mono HW.out.size)⟩
end Go.Proofs.YtihbmgkbipeakaaGreat
