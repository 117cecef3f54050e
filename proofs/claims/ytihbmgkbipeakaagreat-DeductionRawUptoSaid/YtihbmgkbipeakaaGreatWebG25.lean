/- Several texts in one: WebRk. -/
import Derived.Test.YtihbmgkbipeakaaGreatWebG24
import Derived.Test.YtihbmgkbipeakaaGreatWebG10
import Derived.Test.YtihbmgkbipeakaaGreatWebG0
import Derived.Deep.CutBlock
import Derived.Deep.DeepCutAuto
namespace Go.Proofs.YtihbmgkbipeakaaGreat
open Go.RowKit

/-- A row of the call's own whose terms lie in memory from before, as a list of terms. -/
theorem KnownAt.of_own {w w8 : World} {B n8 c8 : Nat} {A8 : Option Addr} {xs : List Value} {L : List T} (hown : w8.ownsRow B 29 3 (.slice A8 n8 c8) n8 xs) (hb : Below w.heap.size w w8) (hc : CT (fun _ => true) w xs L) : n8 = L.length ∧ KnownAt w8 A8 c8 L := by
  have hl := hown.1
  have hl2 := hc.1
  obtain rfl : n8 = L.length := by omega
  refine ⟨rfl, ?_⟩
  rcases Nat.eq_zero_or_pos L.length with h0 | h0
  · have e : L = [] := List.eq_nil_of_length_eq_zero h0
    subst e
    refine TermAt.mk 0 ⟨#[]⟩ A8 c8 [] (fun _ => (undef, undef, undef)) (by decide) (by decide) (Nat.zero_le _) ?_ (.inl rfl) (fun i h => by simp at h)
    rcases hown.2 with ⟨e, _⟩ | ⟨g, cap', cur, e, _, _, hc, hm, _⟩
    · injection e with _ _ e; subst e; exact Nat.zero_le _
    · injection e with _ _ e; subst e; exact hm
  · have hct := hc.keep (w' := w8) (S' := fun _ => true) fun b _ hl => ⟨rfl, hb.block b hl⟩
    obtain ⟨b, cap, e, _⟩ := hown.form h0
    injection e with e1 e2 e3
    subst e1; subst e3
    have hcc : L.length ≤ c8 ∧ c8 ≤ maxLen := by
      rcases hown.2 with ⟨e, _⟩ | ⟨g, cap', cur, e, _, _, hc, hm, _⟩
      · injection e with e _ _; cases e
      · injection e with _ _ e
        subst e; exact ⟨hc, hm⟩
    exact (CT.term (b := b) hct (fun j u hu => by
      have hj := (List.getElem?_eq_some_iff.1 hu).1
      rw [hown.cellAt j (by omega)]; exact hu) rfl 0 ⟨#[]⟩ (by decide) (by decide) hcc.1 hcc.2).at
/-- A list's cells as the source of an append, whatever its length. -/
theorem KnownAt.src' {w : World} {A : Option Addr} {cap : Nat} {L : List T} (h : KnownAt w A cap L) : ∃ xs, Src w 3 A L.length xs ∧ CT (fun _ => true) w xs L ∧ ∀ u ∈ xs, u.oneCell' = true := by
  rcases Nat.eq_zero_or_pos L.length with h0 | h0
  · have e : L = [] := List.eq_nil_of_length_eq_zero h0
    subst e
    exact ⟨[], Src.none_ _ _ _, CT.nil _ _, fun u hu => by simp at hu⟩
  · obtain ⟨b, off, _, _, rfl, _⟩ := h.get (i := 0) h0
    obtain ⟨xs, h1, h2⟩ := CT.of_term (TermAt.inAll h)
    exact ⟨xs, ⟨h1.1, .inr ⟨b, off, rfl, h2⟩⟩, h1.keep (fun _ _ _ => ⟨rfl, rfl⟩), h1.one'⟩
theorem Src.take {w : World} {size n k : Nat} {A : Option Addr} {xs : List Value} (h : Src w size A n xs) (hk : k ≤ n) : Src w size A k (xs.take (k * size)) := by
  refine ⟨by rw [List.length_take, h.1]; exact Nat.min_eq_left (Nat.mul_le_mul_right _ hk), ?_⟩
  rcases h.2 with h0 | ⟨g, off, e, hc⟩
  · exact .inl (by omega)
  · refine .inr ⟨g, off, e, fun j u hu => hc j u ?_⟩
    rw [List.getElem?_take] at hu
    split at hu
    · exact hu
    · cases hu
theorem own_made_below {w w7 : World} {e : TypeId} (hg : (w.alloc (.cells #[] e)).grownBy w7 (some w.heap.size)) : Below w.heap.size w w7 :=
  (below_alloc1 w _).grown hg (by rw [size_alloc1]; omega) (fun b h => by have e : w.heap.size = b := Option.some.inj h; omega)
theorem size_alloc_le {w w7 : World} {o : Obj} (h : Below w.heap.size w w7) : w.heap.size ≤ (w7.alloc o).heap.size := by rw [size_alloc1]; have := h.size; omega
theorem own_push_below {w w7 w8 : World} {o : Obj} {row : Option Nat} (h : Below w.heap.size w w7) (hl : ∀ b, row = some b → w.heap.size ≤ b ∧ b < w7.heap.size) (hg : (w7.alloc o).grownBy w8 row) : Below w.heap.size w w8 :=
  (h.trans ((below_alloc1 w7 o).mono h.size)).grown hg (size_alloc_le h) (fun b hb => (hl b hb).1)
theorem CT.of_term1 {w : World} {t : T} {A : Option Addr} {c : Nat} (h : TermAt w (.agg #[.int .i64 t.kind, .string t.name, .slice A t.kids.length c]) t) : CT (fun _ => true) w [.int .i64 t.kind, .string t.name, .slice A t.kids.length c] [t] :=
  CT.one (h.inAll.keep fun _ _ _ => ⟨rfl, rfl⟩)
/-- What Put leaves. -/
def PutT (L : List T) (w : World) (e : Ending) (w' : World) : Prop := ∃ A' cap', e = .returned (.slice A' L.length cap') ∧ KnownAt w' A' cap' L ∧ Below w.heap.size w w'

set_option maxRecDepth 100000 in
set_option maxHeartbeats 8000000 in
theorem rputT {L : List T} {A : Option Addr} {cap : Nat} {t : T} {v : Value} (w : World) (h : KnownAt w A cap L) (hT : TermAt w v t) (hb : ∀ x ∈ L, x.bulk ≤ 1048576) (hbt : t.bulk ≤ 1048576) (hlen : L.length ≤ 1073741824) :
    Calls Tryz.prog 45 #[.slice A L.length cap, v] w (PutT (putL L t) w) := by
  obtain ⟨i0, hi0, hz0, hz1, hz2⟩ := info_parts Tryz.infoT
  obtain ⟨At, ct, rfl⟩ := hT.inAll.view
  have hw := below_alloc1 w (.cells #[.int .i64 t.kind, .string t.name, .slice At t.kids.length ct] 29)
  have bx := Box.new w (.int .i64 t.kind) (.string t.name) (.slice At t.kids.length ct)
  have HK := Lib.hid (h.later hw); have HT := Lib.hid (hT.later hw); have HW := Lib.hid hw; have HBK := Lib.hid hb
  have hcap := h.cap_le
  have HCAP := Lib.hid hcap
  unfold maxLen at hcap
  have hcap1 : (L.length : Int) ≤ (cap : Int) := by omega
  clear h hT hw hb
  go_enter Tryz.func45, Tryz.ntmps45
  go_upto_region 1 with fail
  generalize w.alloc (.cells #[.int .i64 t.kind, .string t.name, .slice At t.kids.length ct] 29) = w1 at bx HK HT HW ⊢
  have BX := Lib.hid bx
  clear bx
  go_upto_block 0 with fail
  go_cut [5] from 9 to 30 (fun s5 wr => ∃ k : Nat, k ≤ L.length ∧ s5 = .int .i64 k ∧ scanL L t L.length = some k ∧ Below w1.heap.size w1 wr)
  case first =>
    obtain ⟨R, hR⟩ : ∃ R, scanL L t L.length = R := ⟨_, rfl⟩
    have HR := Lib.hid hR
    clear hR
    go_wp2_with fail
    go_loopw [5] (fun s5 wr => ∃ k : Nat, k ≤ L.length ∧ s5 = .int .i64 k ∧ scanL L t k = R ∧ Below w1.heap.size w1 wr) (fun s5 _ => (intOf s5).toNat)
    case atStart => exact ⟨L.length, Nat.le_refl _, rfl, HR.out, Below.refl _ _⟩
    case round =>
      obtain ⟨k, hk, rfl, hs, hbw⟩ := hrel
      have HS := Lib.hid hs; have HBW := Lib.hid hbw
      clear hs
      by_cases hk0 : k = 0
      · have hi : ¬ 0 < k := by omega
        have HK0 := Lib.hid hk0
        clear hk0
        go_upto_region 2 with fail
        (refine wp_region_held_drew (S := (fun Wq => Below wr.heap.size wr Wq)) (by kernel_rfl) ((Below.refl _ wr).drew) (fun hHeld => ?_))
        ((first | (refine wpAnyH_take (i := 0) (v := ?_) (by simp only [List.getElem?_toArray, List.getElem?_cons_zero]; rfl) (by kernel_rfl) (by kernel_rfl) (by kernel_rfl) (by exact fun _ _ _ h => h) (Or.inl ⟨by rfl, ?_⟩) (by assumption) ?_; rotate_left 1; · (intro w hSw; (try dsimp only at hSw); go_simp; (try with_reducible rfl))) | (refine wpAnyH_take (i := 0) (v := undef) (by simp only [List.getElem?_toArray, List.getElem?_cons_zero]; rfl) (by kernel_rfl) (by kernel_rfl) (by kernel_rfl) (by exact fun _ _ _ h => h) (Or.inr ⟨by rfl, rfl⟩) (by assumption) ?_)); (try simp only [Act.put, List.setIfInBounds_toArray, List.set_cons_zero, List.set_cons_succ]))
        ((first | (refine wpAnyH_take (i := 1) (v := ?_) (by simp only [List.getElem?_toArray, List.getElem?_cons_succ, List.getElem?_cons_zero]; rfl) (by kernel_rfl) (by kernel_rfl) (by kernel_rfl) (by exact fun _ _ _ h => h) (Or.inl ⟨by rfl, ?_⟩) (by assumption) ?_; rotate_left 1; · (intro w hSw; (try dsimp only at hSw); go_simp; (try with_reducible rfl))) | (refine wpAnyH_take (i := 1) (v := undef) (by simp only [List.getElem?_toArray, List.getElem?_cons_succ, List.getElem?_cons_zero]; rfl) (by kernel_rfl) (by kernel_rfl) (by kernel_rfl) (by exact fun _ _ _ h => h) (Or.inr ⟨by rfl, rfl⟩) (by assumption) ?_)); (try simp only [Act.put, List.setIfInBounds_toArray, List.set_cons_zero, List.set_cons_succ]))
        ((first | (refine wpAnyH_take (i := 2) (v := ?_) (by simp only [List.getElem?_toArray, List.getElem?_cons_succ, List.getElem?_cons_zero]; rfl) (by kernel_rfl) (by kernel_rfl) (by kernel_rfl) (by exact fun _ _ _ h => h) (Or.inl ⟨by rfl, ?_⟩) (by assumption) ?_; rotate_left 1; · (intro w hSw; (try dsimp only at hSw); go_simp; (try with_reducible rfl))) | (refine wpAnyH_take (i := 2) (v := undef) (by simp only [List.getElem?_toArray, List.getElem?_cons_succ, List.getElem?_cons_zero]; rfl) (by kernel_rfl) (by kernel_rfl) (by kernel_rfl) (by exact fun _ _ _ h => h) (Or.inr ⟨by rfl, rfl⟩) (by assumption) ?_)); (try simp only [Act.put, List.setIfInBounds_toArray, List.set_cons_zero, List.set_cons_succ]))
        ((first | (refine wpAnyH_take (i := 3) (v := ?_) (by simp only [List.getElem?_toArray, List.getElem?_cons_succ, List.getElem?_cons_zero]; rfl) (by kernel_rfl) (by kernel_rfl) (by kernel_rfl) (by exact fun _ _ _ h => h) (Or.inl ⟨by rfl, ?_⟩) (by assumption) ?_; rotate_left 1; · (intro w hSw; (try dsimp only at hSw); go_simp; (try with_reducible rfl))) | (refine wpAnyH_take (i := 3) (v := undef) (by simp only [List.getElem?_toArray, List.getElem?_cons_succ, List.getElem?_cons_zero]; rfl) (by kernel_rfl) (by kernel_rfl) (by kernel_rfl) (by exact fun _ _ _ h => h) (Or.inr ⟨by rfl, rfl⟩) (by assumption) ?_)); (try simp only [Act.put, List.setIfInBounds_toArray, List.set_cons_zero, List.set_cons_succ]))
        ((first | (refine wpAnyH_take (i := 4) (v := ?_) (by simp only [List.getElem?_toArray, List.getElem?_cons_succ, List.getElem?_cons_zero]; rfl) (by kernel_rfl) (by kernel_rfl) (by kernel_rfl) (by exact fun _ _ _ h => h) (Or.inl ⟨by rfl, ?_⟩) (by assumption) ?_; rotate_left 1; · (intro w hSw; (try dsimp only at hSw); go_simp; (try with_reducible rfl))) | (refine wpAnyH_take (i := 4) (v := undef) (by simp only [List.getElem?_toArray, List.getElem?_cons_succ, List.getElem?_cons_zero]; rfl) (by kernel_rfl) (by kernel_rfl) (by kernel_rfl) (by exact fun _ _ _ h => h) (Or.inr ⟨by rfl, rfl⟩) (by assumption) ?_)); (try simp only [Act.put, List.setIfInBounds_toArray, List.set_cons_zero, List.set_cons_succ]))
        ((first | (refine wpAnyH_take (i := 5) (v := ?_) (by simp only [List.getElem?_toArray, List.getElem?_cons_succ, List.getElem?_cons_zero]; rfl) (by kernel_rfl) (by kernel_rfl) (by kernel_rfl) (by exact fun _ _ _ h => h) (Or.inl ⟨by rfl, ?_⟩) (by assumption) ?_; rotate_left 1; · (intro w hSw; (try dsimp only at hSw); go_simp; (try with_reducible rfl))) | (refine wpAnyH_take (i := 5) (v := undef) (by simp only [List.getElem?_toArray, List.getElem?_cons_succ, List.getElem?_cons_zero]; rfl) (by kernel_rfl) (by kernel_rfl) (by kernel_rfl) (by exact fun _ _ _ h => h) (Or.inr ⟨by rfl, rfl⟩) (by assumption) ?_)); (try simp only [Act.put, List.setIfInBounds_toArray, List.set_cons_zero, List.set_cons_succ]))
        ((first | (refine wpAnyH_take (i := 6) (v := ?_) (by simp only [List.getElem?_toArray, List.getElem?_cons_succ, List.getElem?_cons_zero]; rfl) (by kernel_rfl) (by kernel_rfl) (by kernel_rfl) (by exact fun _ _ _ h => h) (Or.inl ⟨by rfl, ?_⟩) (by assumption) ?_; rotate_left 1; · (intro w hSw; (try dsimp only at hSw); go_simp; (try with_reducible rfl))) | (refine wpAnyH_take (i := 6) (v := undef) (by simp only [List.getElem?_toArray, List.getElem?_cons_succ, List.getElem?_cons_zero]; rfl) (by kernel_rfl) (by kernel_rfl) (by kernel_rfl) (by exact fun _ _ _ h => h) (Or.inr ⟨by rfl, rfl⟩) (by assumption) ?_)); (try simp only [Act.put, List.setIfInBounds_toArray, List.set_cons_zero, List.set_cons_succ]))
        ((first | (refine wpAnyH_take (i := 7) (v := ?_) (by simp only [List.getElem?_toArray, List.getElem?_cons_succ, List.getElem?_cons_zero]; rfl) (by kernel_rfl) (by kernel_rfl) (by kernel_rfl) (by exact fun _ _ _ h => h) (Or.inl ⟨by rfl, ?_⟩) (by assumption) ?_; rotate_left 1; · (intro w hSw; (try dsimp only at hSw); go_simp; (try with_reducible rfl))) | (refine wpAnyH_take (i := 7) (v := undef) (by simp only [List.getElem?_toArray, List.getElem?_cons_succ, List.getElem?_cons_zero]; rfl) (by kernel_rfl) (by kernel_rfl) (by kernel_rfl) (by exact fun _ _ _ h => h) (Or.inr ⟨by rfl, rfl⟩) (by assumption) ?_)); (try simp only [Act.put, List.setIfInBounds_toArray, List.set_cons_zero, List.set_cons_succ]))
        ((first | (refine wpAnyH_take (i := 8) (v := ?_) (by simp only [List.getElem?_toArray, List.getElem?_cons_succ, List.getElem?_cons_zero]; rfl) (by kernel_rfl) (by kernel_rfl) (by kernel_rfl) (by exact fun _ _ _ h => h) (Or.inl ⟨by rfl, ?_⟩) (by assumption) ?_; rotate_left 1; · (intro w hSw; (try dsimp only at hSw); go_simp; (try with_reducible rfl))) | (refine wpAnyH_take (i := 8) (v := undef) (by simp only [List.getElem?_toArray, List.getElem?_cons_succ, List.getElem?_cons_zero]; rfl) (by kernel_rfl) (by kernel_rfl) (by kernel_rfl) (by exact fun _ _ _ h => h) (Or.inr ⟨by rfl, rfl⟩) (by assumption) ?_)); (try simp only [Act.put, List.setIfInBounds_toArray, List.set_cons_zero, List.set_cons_succ]))
        ((first | (refine wpAnyH_take (i := 9) (v := ?_) (by simp only [List.getElem?_toArray, List.getElem?_cons_succ, List.getElem?_cons_zero]; rfl) (by kernel_rfl) (by kernel_rfl) (by kernel_rfl) (by exact fun _ _ _ h => h) (Or.inl ⟨by rfl, ?_⟩) (by assumption) ?_; rotate_left 1; · (intro w hSw; (try dsimp only at hSw); go_simp; (try with_reducible rfl))) | (refine wpAnyH_take (i := 9) (v := undef) (by simp only [List.getElem?_toArray, List.getElem?_cons_succ, List.getElem?_cons_zero]; rfl) (by kernel_rfl) (by kernel_rfl) (by kernel_rfl) (by exact fun _ _ _ h => h) (Or.inr ⟨by rfl, rfl⟩) (by assumption) ?_)); (try simp only [Act.put, List.setIfInBounds_toArray, List.set_cons_zero, List.set_cons_succ]))
        ((first | (refine wpAnyH_take (i := 10) (v := ?_) (by simp only [List.getElem?_toArray, List.getElem?_cons_succ, List.getElem?_cons_zero]; rfl) (by kernel_rfl) (by kernel_rfl) (by kernel_rfl) (by exact fun _ _ _ h => h) (Or.inl ⟨by rfl, ?_⟩) (by assumption) ?_; rotate_left 1; · (intro w hSw; (try dsimp only at hSw); go_simp; (try with_reducible rfl))) | (refine wpAnyH_take (i := 10) (v := undef) (by simp only [List.getElem?_toArray, List.getElem?_cons_succ, List.getElem?_cons_zero]; rfl) (by kernel_rfl) (by kernel_rfl) (by kernel_rfl) (by exact fun _ _ _ h => h) (Or.inr ⟨by rfl, rfl⟩) (by assumption) ?_)); (try simp only [Act.put, List.setIfInBounds_toArray, List.set_cons_zero, List.set_cons_succ]))
        ((first | (refine wpAnyH_take (i := 11) (v := ?_) (by simp only [List.getElem?_toArray, List.getElem?_cons_succ, List.getElem?_cons_zero]; rfl) (by kernel_rfl) (by kernel_rfl) (by kernel_rfl) (by exact fun _ _ _ h => h) (Or.inl ⟨by rfl, ?_⟩) (by assumption) ?_; rotate_left 1; · (intro w hSw; (try dsimp only at hSw); go_simp; (try with_reducible rfl))) | (refine wpAnyH_take (i := 11) (v := undef) (by simp only [List.getElem?_toArray, List.getElem?_cons_succ, List.getElem?_cons_zero]; rfl) (by kernel_rfl) (by kernel_rfl) (by kernel_rfl) (by exact fun _ _ _ h => h) (Or.inr ⟨by rfl, rfl⟩) (by assumption) ?_)); (try simp only [Act.put, List.setIfInBounds_toArray, List.set_cons_zero, List.set_cons_succ]))
        (refine wpAnyH_done (by kernel_rfl) ?_ _)
        go_wp2_with fail
        go_meet
        exact ⟨k, hk, rfl, by rw [HR.out, ← HS.out, HK0.out]; rfl, HBW.out.trans (hHeld.mono HBW.out.size)⟩
      · obtain ⟨j, hkj⟩ : ∃ j, k = j + 1 := ⟨k - 1, by omega⟩
        have hlt : j < L.length := by omega
        have hi : 0 < k := by omega
        have hwr : IntKind.i64.wrap ((k : Int) - 1) = (j : Int) := by rw [IntWalk.i64_in _ (by omega)]; omega
        have HKJ := Lib.hid hkj
        have hi1 : (0 : Int) ≤ (j : Int) ∧ (j : Int) < (L.length : Int) := by omega
        obtain ⟨hi1, hi2⟩ := hi1
        obtain ⟨b, off, A1, c1, rfl, d0, d1, d2, hu⟩ := (HK.out.later hbw).get hlt
        obtain ⟨x0, x1, x2⟩ := (BX.out.later hbw).cells
        have HLT := Lib.hid hlt
        have hbx := HBK.out (L[j]'(hlt)) (List.getElem_mem hlt)
        have hsc : scanL L t (j + 1) = if 0 ≤ T.cmp (L[j]'(hlt)) t then (if T.cmp (L[j]'(hlt)) t = 0 then none else scanL L t j) else some (j + 1) := by
          show (if 0 ≤ T.cmp (L.getD j T.nil_) t then _ else _) = _
          rw [getD_at hlt]
        rw [← hkj, HS.out] at hsc
        generalize L[j]'(hlt) = y at d0 d1 d2 hu hbx hsc
        have HU := Lib.hid hu; have HTr := Lib.hid (HT.out.later hbw)
        have HC := Lib.hid (fun v v' W' (h1 : TermAt W' v y) (h2 : TermAt W' v' t) => rcmp (y.bulk + 1) y t v v' W' (by omega) h1 h2 hbx hbt)
        have HM := Lib.hid (fun v v' W' (h1 : TermAt W' v y) (h2 : TermAt W' v' t) => rsame y t v v' W' h1 h2 hbx hbt)
        obtain ⟨q, hq⟩ : ∃ q, T.cmp y t = q := ⟨_, rfl⟩
        have hqv := T.cmp_vals y t
        rw [hq] at HC HM hqv hsc
        have HSC := Lib.hid hsc
        clear hu hbw hbx hq hsc hk0 hkj
        go_upto_region 2 with fail
        (refine wp_region_held_drew (S := (fun Wq => Wq.cell? ⟨b, off + j * 3, none⟩ = some (.int .i64 y.kind) ∧ Wq.cell? ⟨b, off + j * 3 + 1, none⟩ = some (.string y.name) ∧ Wq.cell? ⟨b, off + j * 3 + 2, none⟩ = some (.slice A1 y.kids.length c1) ∧ Wq.cell? ⟨w.heap.size, 0, none⟩ = some (.int .i64 t.kind) ∧ Wq.cell? ⟨w.heap.size, 1, none⟩ = some (.string t.name) ∧ Wq.cell? ⟨w.heap.size, 2, none⟩ = some (.slice At t.kids.length ct) ∧ Below wr.heap.size wr Wq)) (by kernel_rfl) (show _ ∧ _ ∧ _ ∧ _ ∧ _ ∧ _ ∧ _ from ⟨d0, d1, d2, x0, x1, x2, (Below.refl _ wr).drew⟩) (fun hHeld => ?_))
        ((first | (refine wpAnyH_take (i := 0) (v := ?_) (by simp only [List.getElem?_toArray, List.getElem?_cons_zero]; rfl) (by kernel_rfl) (by kernel_rfl) (by kernel_rfl) (by exact fun _ _ _ h => h) (Or.inl ⟨by rfl, ?_⟩) (by assumption) ?_; rotate_left 1; · (intro w hSw; (try dsimp only at hSw); go_simp; (try with_reducible rfl))) | (refine wpAnyH_take (i := 0) (v := undef) (by simp only [List.getElem?_toArray, List.getElem?_cons_zero]; rfl) (by kernel_rfl) (by kernel_rfl) (by kernel_rfl) (by exact fun _ _ _ h => h) (Or.inr ⟨by rfl, rfl⟩) (by assumption) ?_)); (try simp only [Act.put, List.setIfInBounds_toArray, List.set_cons_zero, List.set_cons_succ]))
        ((first | (refine wpAnyH_take (i := 1) (v := ?_) (by simp only [List.getElem?_toArray, List.getElem?_cons_succ, List.getElem?_cons_zero]; rfl) (by kernel_rfl) (by kernel_rfl) (by kernel_rfl) (by exact fun _ _ _ h => h) (Or.inl ⟨by rfl, ?_⟩) (by assumption) ?_; rotate_left 1; · (intro w hSw; (try dsimp only at hSw); go_simp; (try with_reducible rfl))) | (refine wpAnyH_take (i := 1) (v := undef) (by simp only [List.getElem?_toArray, List.getElem?_cons_succ, List.getElem?_cons_zero]; rfl) (by kernel_rfl) (by kernel_rfl) (by kernel_rfl) (by exact fun _ _ _ h => h) (Or.inr ⟨by rfl, rfl⟩) (by assumption) ?_)); (try simp only [Act.put, List.setIfInBounds_toArray, List.set_cons_zero, List.set_cons_succ]))
        ((first | (refine wpAnyH_take (i := 2) (v := ?_) (by simp only [List.getElem?_toArray, List.getElem?_cons_succ, List.getElem?_cons_zero]; rfl) (by kernel_rfl) (by kernel_rfl) (by kernel_rfl) (by exact fun _ _ _ h => h) (Or.inl ⟨by rfl, ?_⟩) (by assumption) ?_; rotate_left 1; · (intro w hSw; (try dsimp only at hSw); go_simp; (try with_reducible rfl))) | (refine wpAnyH_take (i := 2) (v := undef) (by simp only [List.getElem?_toArray, List.getElem?_cons_succ, List.getElem?_cons_zero]; rfl) (by kernel_rfl) (by kernel_rfl) (by kernel_rfl) (by exact fun _ _ _ h => h) (Or.inr ⟨by rfl, rfl⟩) (by assumption) ?_)); (try simp only [Act.put, List.setIfInBounds_toArray, List.set_cons_zero, List.set_cons_succ]))
        ((first | (refine wpAnyH_take (i := 3) (v := ?_) (by simp only [List.getElem?_toArray, List.getElem?_cons_succ, List.getElem?_cons_zero]; rfl) (by kernel_rfl) (by kernel_rfl) (by kernel_rfl) (by exact fun _ _ _ h => h) (Or.inl ⟨by rfl, ?_⟩) (by assumption) ?_; rotate_left 1; · (intro w hSw; (try dsimp only at hSw); go_simp; (try with_reducible rfl))) | (refine wpAnyH_take (i := 3) (v := undef) (by simp only [List.getElem?_toArray, List.getElem?_cons_succ, List.getElem?_cons_zero]; rfl) (by kernel_rfl) (by kernel_rfl) (by kernel_rfl) (by exact fun _ _ _ h => h) (Or.inr ⟨by rfl, rfl⟩) (by assumption) ?_)); (try simp only [Act.put, List.setIfInBounds_toArray, List.set_cons_zero, List.set_cons_succ]))
        ((first | (refine wpAnyH_take (i := 4) (v := ?_) (by simp only [List.getElem?_toArray, List.getElem?_cons_succ, List.getElem?_cons_zero]; rfl) (by kernel_rfl) (by kernel_rfl) (by kernel_rfl) (by exact fun _ _ _ h => h) (Or.inl ⟨by rfl, ?_⟩) (by assumption) ?_; rotate_left 1; · (intro w hSw; (try dsimp only at hSw); go_simp; (try with_reducible rfl))) | (refine wpAnyH_take (i := 4) (v := undef) (by simp only [List.getElem?_toArray, List.getElem?_cons_succ, List.getElem?_cons_zero]; rfl) (by kernel_rfl) (by kernel_rfl) (by kernel_rfl) (by exact fun _ _ _ h => h) (Or.inr ⟨by rfl, rfl⟩) (by assumption) ?_)); (try simp only [Act.put, List.setIfInBounds_toArray, List.set_cons_zero, List.set_cons_succ]))
        ((first | (refine wpAnyH_take (i := 5) (v := ?_) (by simp only [List.getElem?_toArray, List.getElem?_cons_succ, List.getElem?_cons_zero]; rfl) (by kernel_rfl) (by kernel_rfl) (by kernel_rfl) (by exact fun _ _ _ h => h) (Or.inl ⟨by rfl, ?_⟩) (by assumption) ?_; rotate_left 1; · (intro w hSw; (try dsimp only at hSw); go_simp; (try with_reducible rfl))) | (refine wpAnyH_take (i := 5) (v := undef) (by simp only [List.getElem?_toArray, List.getElem?_cons_succ, List.getElem?_cons_zero]; rfl) (by kernel_rfl) (by kernel_rfl) (by kernel_rfl) (by exact fun _ _ _ h => h) (Or.inr ⟨by rfl, rfl⟩) (by assumption) ?_)); (try simp only [Act.put, List.setIfInBounds_toArray, List.set_cons_zero, List.set_cons_succ]))
        ((first | (refine wpAnyH_take (i := 6) (v := ?_) (by simp only [List.getElem?_toArray, List.getElem?_cons_succ, List.getElem?_cons_zero]; rfl) (by kernel_rfl) (by kernel_rfl) (by kernel_rfl) (by exact fun _ _ _ h => h) (Or.inl ⟨by rfl, ?_⟩) (by assumption) ?_; rotate_left 1; · (intro w hSw; (try dsimp only at hSw); go_simp; (try with_reducible rfl))) | (refine wpAnyH_take (i := 6) (v := undef) (by simp only [List.getElem?_toArray, List.getElem?_cons_succ, List.getElem?_cons_zero]; rfl) (by kernel_rfl) (by kernel_rfl) (by kernel_rfl) (by exact fun _ _ _ h => h) (Or.inr ⟨by rfl, rfl⟩) (by assumption) ?_)); (try simp only [Act.put, List.setIfInBounds_toArray, List.set_cons_zero, List.set_cons_succ]))
        ((first | (refine wpAnyH_take (i := 7) (v := ?_) (by simp only [List.getElem?_toArray, List.getElem?_cons_succ, List.getElem?_cons_zero]; rfl) (by kernel_rfl) (by kernel_rfl) (by kernel_rfl) (by exact fun _ _ _ h => h) (Or.inl ⟨by rfl, ?_⟩) (by assumption) ?_; rotate_left 1; · (intro w hSw; (try dsimp only at hSw); go_simp; (try with_reducible rfl))) | (refine wpAnyH_take (i := 7) (v := undef) (by simp only [List.getElem?_toArray, List.getElem?_cons_succ, List.getElem?_cons_zero]; rfl) (by kernel_rfl) (by kernel_rfl) (by kernel_rfl) (by exact fun _ _ _ h => h) (Or.inr ⟨by rfl, rfl⟩) (by assumption) ?_)); (try simp only [Act.put, List.setIfInBounds_toArray, List.set_cons_zero, List.set_cons_succ]))
        ((first | (refine wpAnyH_take (i := 8) (v := ?_) (by simp only [List.getElem?_toArray, List.getElem?_cons_succ, List.getElem?_cons_zero]; rfl) (by kernel_rfl) (by kernel_rfl) (by kernel_rfl) (by exact fun _ _ _ h => h) (Or.inl ⟨by rfl, ?_⟩) (by assumption) ?_; rotate_left 1; · (intro w hSw; (try dsimp only at hSw); go_simp; (try with_reducible rfl))) | (refine wpAnyH_take (i := 8) (v := undef) (by simp only [List.getElem?_toArray, List.getElem?_cons_succ, List.getElem?_cons_zero]; rfl) (by kernel_rfl) (by kernel_rfl) (by kernel_rfl) (by exact fun _ _ _ h => h) (Or.inr ⟨by rfl, rfl⟩) (by assumption) ?_)); (try simp only [Act.put, List.setIfInBounds_toArray, List.set_cons_zero, List.set_cons_succ]))
        (refine wpAnyH_ready (rs := [9]) (by kernel_rfl) (by simp) ?_; refine AllReadyH.cons (by simp only [List.getElem?_toArray, List.getElem?_cons_succ, List.getElem?_cons_zero]; rfl) (fun K hK => ?_) AllReadyH.nil; go_simp; go_at_call 56; refine (HC.out _ _ _ (HU.out.later hHeld.2.2.2.2.2.2) (HTr.out.later hHeld.2.2.2.2.2.2)).mono ?_; rintro e wz ⟨rfl, hb4⟩; refine hK.out _ _ (⟨cell_later hb4 hHeld.1, cell_later hb4 hHeld.2.1, cell_later hb4 hHeld.2.2.1, cell_later hb4 hHeld.2.2.2.1, cell_later hb4 hHeld.2.2.2.2.1, cell_later hb4 hHeld.2.2.2.2.2.1, hHeld.2.2.2.2.2.2.trans (hb4.mono hHeld.2.2.2.2.2.2.size)⟩) (fun hHeld => ?_); clear hK K; (try simp only [Act.put, List.setIfInBounds_toArray, List.set_cons_zero, List.set_cons_succ]))
        ((first | (refine wpAnyH_take (i := 10) (v := ?_) (by simp only [List.getElem?_toArray, List.getElem?_cons_succ, List.getElem?_cons_zero]; rfl) (by kernel_rfl) (by kernel_rfl) (by kernel_rfl) (by exact fun _ _ _ h => h) (Or.inl ⟨by rfl, ?_⟩) (by assumption) ?_; rotate_left 1; · (intro w hSw; (try dsimp only at hSw); go_simp; (try with_reducible rfl))) | (refine wpAnyH_take (i := 10) (v := undef) (by simp only [List.getElem?_toArray, List.getElem?_cons_succ, List.getElem?_cons_zero]; rfl) (by kernel_rfl) (by kernel_rfl) (by kernel_rfl) (by exact fun _ _ _ h => h) (Or.inr ⟨by rfl, rfl⟩) (by assumption) ?_)); (try simp only [Act.put, List.setIfInBounds_toArray, List.set_cons_zero, List.set_cons_succ]))
        ((first | (refine wpAnyH_take (i := 11) (v := ?_) (by simp only [List.getElem?_toArray, List.getElem?_cons_succ, List.getElem?_cons_zero]; rfl) (by kernel_rfl) (by kernel_rfl) (by kernel_rfl) (by exact fun _ _ _ h => h) (Or.inl ⟨by rfl, ?_⟩) (by assumption) ?_; rotate_left 1; · (intro w hSw; (try dsimp only at hSw); go_simp; (try with_reducible rfl))) | (refine wpAnyH_take (i := 11) (v := undef) (by simp only [List.getElem?_toArray, List.getElem?_cons_succ, List.getElem?_cons_zero]; rfl) (by kernel_rfl) (by kernel_rfl) (by kernel_rfl) (by exact fun _ _ _ h => h) (Or.inr ⟨by rfl, rfl⟩) (by assumption) ?_)); (try simp only [Act.put, List.setIfInBounds_toArray, List.set_cons_zero, List.set_cons_succ]))
        (refine wpAnyH_done (by kernel_rfl) ?_ _)
        obtain ⟨d0, d1, d2, x0, x1, x2, hb2⟩ := hHeld
        have HB2 := Lib.hid (HBW.out.trans (hb2.mono HBW.out.size)); have HU2 := Lib.hid (HU.out.later hb2); have HTr2 := Lib.hid (HTr.out.later hb2)
        clear hb2
        rcases hqv with rfl | rfl | rfl
        · have HE := Lib.hid (show R = some k by rw [HSC.out]; rfl)
          go_wp2_with fail
          go_meet
          exact ⟨k, hk, rfl, by rw [HR.out, HE.out], HB2.out⟩
        · have HE := Lib.hid (show R = none by rw [HSC.out]; rfl)
          replace HM := Lib.hid (show ∀ v v' W', TermAt W' v y → TermAt W' v' t → Calls Tryz.prog 25 #[v, v'] W' fun e w' => e = .returned (.bool true) ∧ Below W'.heap.size W' w' from HM.out)
          go_upto_region 3 with fail
          (refine wp_region_held_drew (S := (fun Wq => Wq.cell? ⟨b, off + j * 3, none⟩ = some (.int .i64 y.kind) ∧ Wq.cell? ⟨b, off + j * 3 + 1, none⟩ = some (.string y.name) ∧ Wq.cell? ⟨b, off + j * 3 + 2, none⟩ = some (.slice A1 y.kids.length c1) ∧ Wq.cell? ⟨w.heap.size, 0, none⟩ = some (.int .i64 t.kind) ∧ Wq.cell? ⟨w.heap.size, 1, none⟩ = some (.string t.name) ∧ Wq.cell? ⟨w.heap.size, 2, none⟩ = some (.slice At t.kids.length ct) ∧ Below wz.heap.size wz Wq)) (by kernel_rfl) (show _ ∧ _ ∧ _ ∧ _ ∧ _ ∧ _ ∧ _ from ⟨d0, d1, d2, x0, x1, x2, (Below.refl _ wz).drew⟩) (fun hHeld => ?_))
          ((first | (refine wpAnyH_take (i := 0) (v := ?_) (by simp only [List.getElem?_toArray, List.getElem?_cons_zero]; rfl) (by kernel_rfl) (by kernel_rfl) (by kernel_rfl) (by exact fun _ _ _ h => h) (Or.inl ⟨by rfl, ?_⟩) (by assumption) ?_; rotate_left 1; · (intro w hSw; (try dsimp only at hSw); go_simp; (try with_reducible rfl))) | (refine wpAnyH_take (i := 0) (v := undef) (by simp only [List.getElem?_toArray, List.getElem?_cons_zero]; rfl) (by kernel_rfl) (by kernel_rfl) (by kernel_rfl) (by exact fun _ _ _ h => h) (Or.inr ⟨by rfl, rfl⟩) (by assumption) ?_)); (try simp only [Act.put, List.setIfInBounds_toArray, List.set_cons_zero, List.set_cons_succ]))
          ((first | (refine wpAnyH_take (i := 1) (v := ?_) (by simp only [List.getElem?_toArray, List.getElem?_cons_succ, List.getElem?_cons_zero]; rfl) (by kernel_rfl) (by kernel_rfl) (by kernel_rfl) (by exact fun _ _ _ h => h) (Or.inl ⟨by rfl, ?_⟩) (by assumption) ?_; rotate_left 1; · (intro w hSw; (try dsimp only at hSw); go_simp; (try with_reducible rfl))) | (refine wpAnyH_take (i := 1) (v := undef) (by simp only [List.getElem?_toArray, List.getElem?_cons_succ, List.getElem?_cons_zero]; rfl) (by kernel_rfl) (by kernel_rfl) (by kernel_rfl) (by exact fun _ _ _ h => h) (Or.inr ⟨by rfl, rfl⟩) (by assumption) ?_)); (try simp only [Act.put, List.setIfInBounds_toArray, List.set_cons_zero, List.set_cons_succ]))
          ((first | (refine wpAnyH_take (i := 2) (v := ?_) (by simp only [List.getElem?_toArray, List.getElem?_cons_succ, List.getElem?_cons_zero]; rfl) (by kernel_rfl) (by kernel_rfl) (by kernel_rfl) (by exact fun _ _ _ h => h) (Or.inl ⟨by rfl, ?_⟩) (by assumption) ?_; rotate_left 1; · (intro w hSw; (try dsimp only at hSw); go_simp; (try with_reducible rfl))) | (refine wpAnyH_take (i := 2) (v := undef) (by simp only [List.getElem?_toArray, List.getElem?_cons_succ, List.getElem?_cons_zero]; rfl) (by kernel_rfl) (by kernel_rfl) (by kernel_rfl) (by exact fun _ _ _ h => h) (Or.inr ⟨by rfl, rfl⟩) (by assumption) ?_)); (try simp only [Act.put, List.setIfInBounds_toArray, List.set_cons_zero, List.set_cons_succ]))
          ((first | (refine wpAnyH_take (i := 3) (v := ?_) (by simp only [List.getElem?_toArray, List.getElem?_cons_succ, List.getElem?_cons_zero]; rfl) (by kernel_rfl) (by kernel_rfl) (by kernel_rfl) (by exact fun _ _ _ h => h) (Or.inl ⟨by rfl, ?_⟩) (by assumption) ?_; rotate_left 1; · (intro w hSw; (try dsimp only at hSw); go_simp; (try with_reducible rfl))) | (refine wpAnyH_take (i := 3) (v := undef) (by simp only [List.getElem?_toArray, List.getElem?_cons_succ, List.getElem?_cons_zero]; rfl) (by kernel_rfl) (by kernel_rfl) (by kernel_rfl) (by exact fun _ _ _ h => h) (Or.inr ⟨by rfl, rfl⟩) (by assumption) ?_)); (try simp only [Act.put, List.setIfInBounds_toArray, List.set_cons_zero, List.set_cons_succ]))
          ((first | (refine wpAnyH_take (i := 4) (v := ?_) (by simp only [List.getElem?_toArray, List.getElem?_cons_succ, List.getElem?_cons_zero]; rfl) (by kernel_rfl) (by kernel_rfl) (by kernel_rfl) (by exact fun _ _ _ h => h) (Or.inl ⟨by rfl, ?_⟩) (by assumption) ?_; rotate_left 1; · (intro w hSw; (try dsimp only at hSw); go_simp; (try with_reducible rfl))) | (refine wpAnyH_take (i := 4) (v := undef) (by simp only [List.getElem?_toArray, List.getElem?_cons_succ, List.getElem?_cons_zero]; rfl) (by kernel_rfl) (by kernel_rfl) (by kernel_rfl) (by exact fun _ _ _ h => h) (Or.inr ⟨by rfl, rfl⟩) (by assumption) ?_)); (try simp only [Act.put, List.setIfInBounds_toArray, List.set_cons_zero, List.set_cons_succ]))
          ((first | (refine wpAnyH_take (i := 5) (v := ?_) (by simp only [List.getElem?_toArray, List.getElem?_cons_succ, List.getElem?_cons_zero]; rfl) (by kernel_rfl) (by kernel_rfl) (by kernel_rfl) (by exact fun _ _ _ h => h) (Or.inl ⟨by rfl, ?_⟩) (by assumption) ?_; rotate_left 1; · (intro w hSw; (try dsimp only at hSw); go_simp; (try with_reducible rfl))) | (refine wpAnyH_take (i := 5) (v := undef) (by simp only [List.getElem?_toArray, List.getElem?_cons_succ, List.getElem?_cons_zero]; rfl) (by kernel_rfl) (by kernel_rfl) (by kernel_rfl) (by exact fun _ _ _ h => h) (Or.inr ⟨by rfl, rfl⟩) (by assumption) ?_)); (try simp only [Act.put, List.setIfInBounds_toArray, List.set_cons_zero, List.set_cons_succ]))
          (refine wpAnyH_ready (rs := [6]) (by kernel_rfl) (by simp) ?_; refine AllReadyH.cons (by simp only [List.getElem?_toArray, List.getElem?_cons_succ, List.getElem?_cons_zero]; rfl) (fun K hK => ?_) AllReadyH.nil; go_simp; go_at_call 25; refine (HM.out _ _ _ (HU2.out.later hHeld.2.2.2.2.2.2) (HTr2.out.later hHeld.2.2.2.2.2.2)).mono ?_; rintro e wz ⟨rfl, hb4⟩; refine hK.out _ _ (⟨cell_later hb4 hHeld.1, cell_later hb4 hHeld.2.1, cell_later hb4 hHeld.2.2.1, cell_later hb4 hHeld.2.2.2.1, cell_later hb4 hHeld.2.2.2.2.1, cell_later hb4 hHeld.2.2.2.2.2.1, hHeld.2.2.2.2.2.2.trans (hb4.mono hHeld.2.2.2.2.2.2.size)⟩) (fun hHeld => ?_); clear hK K; (try simp only [Act.put, List.setIfInBounds_toArray, List.set_cons_zero, List.set_cons_succ]))
          (refine wpAnyH_done (by kernel_rfl) ?_ _)
          go_wp2_with fail
          go_ret
          have e : putL L t = L := by unfold putL; rw [HR.out, HE.out]
          rw [e]
          exact ⟨_, _, rfl, HK.out.later (HB2.out.trans (hHeld.2.2.2.2.2.2.mono HB2.out.size)), HW.out.trans ((HB2.out.trans (hHeld.2.2.2.2.2.2.mono HB2.out.size)).mono HW.out.size)⟩
        · have HE := Lib.hid (show scanL L t j = R by rw [HSC.out]; rfl)
          replace HM := Lib.hid (show ∀ v v' W', TermAt W' v y → TermAt W' v' t → Calls Tryz.prog 25 #[v, v'] W' fun e w' => e = .returned (.bool false) ∧ Below W'.heap.size W' w' from HM.out)
          go_upto_region 3 with fail
          (refine wp_region_held_drew (S := (fun Wq => Wq.cell? ⟨b, off + j * 3, none⟩ = some (.int .i64 y.kind) ∧ Wq.cell? ⟨b, off + j * 3 + 1, none⟩ = some (.string y.name) ∧ Wq.cell? ⟨b, off + j * 3 + 2, none⟩ = some (.slice A1 y.kids.length c1) ∧ Wq.cell? ⟨w.heap.size, 0, none⟩ = some (.int .i64 t.kind) ∧ Wq.cell? ⟨w.heap.size, 1, none⟩ = some (.string t.name) ∧ Wq.cell? ⟨w.heap.size, 2, none⟩ = some (.slice At t.kids.length ct) ∧ Below wz.heap.size wz Wq)) (by kernel_rfl) (show _ ∧ _ ∧ _ ∧ _ ∧ _ ∧ _ ∧ _ from ⟨d0, d1, d2, x0, x1, x2, (Below.refl _ wz).drew⟩) (fun hHeld => ?_))
          ((first | (refine wpAnyH_take (i := 0) (v := ?_) (by simp only [List.getElem?_toArray, List.getElem?_cons_zero]; rfl) (by kernel_rfl) (by kernel_rfl) (by kernel_rfl) (by exact fun _ _ _ h => h) (Or.inl ⟨by rfl, ?_⟩) (by assumption) ?_; rotate_left 1; · (intro w hSw; (try dsimp only at hSw); go_simp; (try with_reducible rfl))) | (refine wpAnyH_take (i := 0) (v := undef) (by simp only [List.getElem?_toArray, List.getElem?_cons_zero]; rfl) (by kernel_rfl) (by kernel_rfl) (by kernel_rfl) (by exact fun _ _ _ h => h) (Or.inr ⟨by rfl, rfl⟩) (by assumption) ?_)); (try simp only [Act.put, List.setIfInBounds_toArray, List.set_cons_zero, List.set_cons_succ]))
          ((first | (refine wpAnyH_take (i := 1) (v := ?_) (by simp only [List.getElem?_toArray, List.getElem?_cons_succ, List.getElem?_cons_zero]; rfl) (by kernel_rfl) (by kernel_rfl) (by kernel_rfl) (by exact fun _ _ _ h => h) (Or.inl ⟨by rfl, ?_⟩) (by assumption) ?_; rotate_left 1; · (intro w hSw; (try dsimp only at hSw); go_simp; (try with_reducible rfl))) | (refine wpAnyH_take (i := 1) (v := undef) (by simp only [List.getElem?_toArray, List.getElem?_cons_succ, List.getElem?_cons_zero]; rfl) (by kernel_rfl) (by kernel_rfl) (by kernel_rfl) (by exact fun _ _ _ h => h) (Or.inr ⟨by rfl, rfl⟩) (by assumption) ?_)); (try simp only [Act.put, List.setIfInBounds_toArray, List.set_cons_zero, List.set_cons_succ]))
          ((first | (refine wpAnyH_take (i := 2) (v := ?_) (by simp only [List.getElem?_toArray, List.getElem?_cons_succ, List.getElem?_cons_zero]; rfl) (by kernel_rfl) (by kernel_rfl) (by kernel_rfl) (by exact fun _ _ _ h => h) (Or.inl ⟨by rfl, ?_⟩) (by assumption) ?_; rotate_left 1; · (intro w hSw; (try dsimp only at hSw); go_simp; (try with_reducible rfl))) | (refine wpAnyH_take (i := 2) (v := undef) (by simp only [List.getElem?_toArray, List.getElem?_cons_succ, List.getElem?_cons_zero]; rfl) (by kernel_rfl) (by kernel_rfl) (by kernel_rfl) (by exact fun _ _ _ h => h) (Or.inr ⟨by rfl, rfl⟩) (by assumption) ?_)); (try simp only [Act.put, List.setIfInBounds_toArray, List.set_cons_zero, List.set_cons_succ]))
          ((first | (refine wpAnyH_take (i := 3) (v := ?_) (by simp only [List.getElem?_toArray, List.getElem?_cons_succ, List.getElem?_cons_zero]; rfl) (by kernel_rfl) (by kernel_rfl) (by kernel_rfl) (by exact fun _ _ _ h => h) (Or.inl ⟨by rfl, ?_⟩) (by assumption) ?_; rotate_left 1; · (intro w hSw; (try dsimp only at hSw); go_simp; (try with_reducible rfl))) | (refine wpAnyH_take (i := 3) (v := undef) (by simp only [List.getElem?_toArray, List.getElem?_cons_succ, List.getElem?_cons_zero]; rfl) (by kernel_rfl) (by kernel_rfl) (by kernel_rfl) (by exact fun _ _ _ h => h) (Or.inr ⟨by rfl, rfl⟩) (by assumption) ?_)); (try simp only [Act.put, List.setIfInBounds_toArray, List.set_cons_zero, List.set_cons_succ]))
          ((first | (refine wpAnyH_take (i := 4) (v := ?_) (by simp only [List.getElem?_toArray, List.getElem?_cons_succ, List.getElem?_cons_zero]; rfl) (by kernel_rfl) (by kernel_rfl) (by kernel_rfl) (by exact fun _ _ _ h => h) (Or.inl ⟨by rfl, ?_⟩) (by assumption) ?_; rotate_left 1; · (intro w hSw; (try dsimp only at hSw); go_simp; (try with_reducible rfl))) | (refine wpAnyH_take (i := 4) (v := undef) (by simp only [List.getElem?_toArray, List.getElem?_cons_succ, List.getElem?_cons_zero]; rfl) (by kernel_rfl) (by kernel_rfl) (by kernel_rfl) (by exact fun _ _ _ h => h) (Or.inr ⟨by rfl, rfl⟩) (by assumption) ?_)); (try simp only [Act.put, List.setIfInBounds_toArray, List.set_cons_zero, List.set_cons_succ]))
          ((first | (refine wpAnyH_take (i := 5) (v := ?_) (by simp only [List.getElem?_toArray, List.getElem?_cons_succ, List.getElem?_cons_zero]; rfl) (by kernel_rfl) (by kernel_rfl) (by kernel_rfl) (by exact fun _ _ _ h => h) (Or.inl ⟨by rfl, ?_⟩) (by assumption) ?_; rotate_left 1; · (intro w hSw; (try dsimp only at hSw); go_simp; (try with_reducible rfl))) | (refine wpAnyH_take (i := 5) (v := undef) (by simp only [List.getElem?_toArray, List.getElem?_cons_succ, List.getElem?_cons_zero]; rfl) (by kernel_rfl) (by kernel_rfl) (by kernel_rfl) (by exact fun _ _ _ h => h) (Or.inr ⟨by rfl, rfl⟩) (by assumption) ?_)); (try simp only [Act.put, List.setIfInBounds_toArray, List.set_cons_zero, List.set_cons_succ]))
          (refine wpAnyH_ready (rs := [6]) (by kernel_rfl) (by simp) ?_; refine AllReadyH.cons (by simp only [List.getElem?_toArray, List.getElem?_cons_succ, List.getElem?_cons_zero]; rfl) (fun K hK => ?_) AllReadyH.nil; go_simp; go_at_call 25; refine (HM.out _ _ _ (HU2.out.later hHeld.2.2.2.2.2.2) (HTr2.out.later hHeld.2.2.2.2.2.2)).mono ?_; rintro e wz ⟨rfl, hb4⟩; refine hK.out _ _ (⟨cell_later hb4 hHeld.1, cell_later hb4 hHeld.2.1, cell_later hb4 hHeld.2.2.1, cell_later hb4 hHeld.2.2.2.1, cell_later hb4 hHeld.2.2.2.2.1, cell_later hb4 hHeld.2.2.2.2.2.1, hHeld.2.2.2.2.2.2.trans (hb4.mono hHeld.2.2.2.2.2.2.size)⟩) (fun hHeld => ?_); clear hK K; (try simp only [Act.put, List.setIfInBounds_toArray, List.set_cons_zero, List.set_cons_succ]))
          (refine wpAnyH_done (by kernel_rfl) ?_ _)
          go_wp2_with fail
          go_roundw
          case rel => exact ⟨j, Nat.le_of_lt HLT.out, rfl, HE.out, HB2.out.trans (hHeld.2.2.2.2.2.2.mono HB2.out.size)⟩
          case measure => have := HKJ.out; simp [intOf]; omega
  case rest =>
    obtain ⟨k, hk, rfl, hs, hbw⟩ := hcut
    obtain ⟨wr, rfl⟩ : ∃ wr : World, wr = wc := ⟨_, rfl⟩
    have HPL := Lib.hid (show putL L t = (L.take k ++ [t]) ++ L.drop k by unfold putL; rw [hs])
    have HBW := Lib.hid hbw
    obtain ⟨xs, hsrc, hct, hone⟩ := HK.out.src'
    have hct2 := (((hct.take k).append (CT.of_term1 HT.out)).append (hct.drop k)).keep (w' := wr) (S' := fun _ => true) fun b _ hl => ⟨rfl, hbw.block b hl⟩
    have HCT := Lib.hid hct2
    have hsr := hsrc.later hbw
    have HO1 := Lib.hid (show ∀ u ∈ xs.take (k * 3), u.oneCell' = true from fun u hu => hone u (List.mem_of_mem_take hu))
    have HO3 := Lib.hid (show ∀ u ∈ xs.drop (k * 3), u.oneCell' = true from fun u hu => hone u (List.mem_of_mem_drop hu))
    have HO2 := Lib.hid (show ∀ u ∈ [Value.int .i64 t.kind, .string t.name, .slice At t.kids.length ct], u.oneCell' = true from fun u hu => by simp at hu; rcases hu with rfl | rfl | rfl <;> rfl)
    have HS1 := Lib.hid (hsr.take hk)
    have hs3 := hsr.cut hk hcap.1
    have b1 : (0 : Int) ≤ (k : Int) := by omega
    have b2 : (k : Int) ≤ (cap : Int) := by omega
    have b3 : (k : Int) ≤ (L.length : Int) := by omega
    have HE := Lib.hid (World.ownsRow_made (size := 3) (e := 29) wr #[] 0 (base := wr.heap.size) (Nat.le_refl _) (Nat.zero_le _) rfl)
    have BXr := Lib.hid (BX.out.later hbw)
    have HFIN := Lib.hid (fun n9 A9 c9 w9 (hown : w9.ownsRow wr.heap.size 29 3 (.slice A9 n9 c9) n9 ((xs.take (k * 3) ++ [Value.int .i64 t.kind, .string t.name, .slice At t.kids.length ct]) ++ xs.drop (k * 3))) (hb9 : Below wr.heap.size wr w9) => (show PutT (putL L t) w (.returned (.slice A9 n9 c9)) w9 from by
      obtain ⟨e, hk9⟩ := KnownAt.of_own hown hb9 HCT.out
      rw [HPL.out]
      exact ⟨A9, c9, by rw [e], hk9, HW.out.trans ((HBW.out.trans (hb9.mono HBW.out.size)).mono HW.out.size)⟩))
    clear hs hbw hsrc hct hct2 hone hsr
    by_cases hck : cap = k
    · have hck' : (cap : Int) = (k : Int) := by omega
      rw [if_pos hck] at hs3
      have HS3 := Lib.hid hs3
      clear hs3
      go_wp2_with (first | (at_builtin; refine wpList_append_src _ rfl (.tmp 31) (.tmp 34) 27 rfl wr.heap.size 29 i0 _ 3 48 Tryz.underlying27 hi0 hz0 hz1 hz2 rfl (by omega) _ 0 [] rfl HE.out _ k _ _ rfl (HS1.out.later (below_alloc1 wr _)) HO1.out (by unfold maxLen; omega) (by omega) (by rw [size_alloc1]; omega) ?_; intro A7 c7 w7 hown7 hg7 hat7; simp only [Nat.zero_add, List.nil_append] at hown7 hg7 hat7 ⊢; have hb7 := own_made_below hg7; obtain ⟨x0, x1, x2⟩ := (BXr.out.later hb7).cells) | (at_builtin; refine wpList_append_src _ rfl (.tmp 36) (.tmp 38) 27 rfl wr.heap.size 29 i0 _ 3 48 Tryz.underlying27 hi0 hz0 hz1 hz2 rfl (by omega) _ k _ rfl (own_later hown7 (below_alloc1 w7 _)) _ 1 1 [.int .i64 t.kind, .string t.name, .slice At t.kids.length ct] rfl (Src.newsU _ _ _ 3 rfl) HO2.out (by unfold maxLen; omega) (by omega) (size_alloc_le hb7) ?_; intro A8 c8 w8 hown8 hg8 hat8; have hb8 := own_push_below hb7 hown7.lt hg8) | (at_builtin; refine wpList_append_src _ rfl (.tmp 40) (.tmp 43) 27 rfl wr.heap.size 29 i0 _ 3 48 Tryz.underlying27 hi0 hz0 hz1 hz2 rfl (by omega) _ (k + 1) _ rfl hown8 _ (L.length - k) _ _ rfl (HS3.out.later hb8) HO3.out (by unfold maxLen; omega) (by omega) (show _ ≤ w8.heap.size from hb8.size) ?_; intro A9 c9 w9 hown9 hg9 hat9))
      have hfin := HFIN.out _ A9 c9 w9 hown9 (hb8.grown hg9 (show _ ≤ w8.heap.size from hb8.size) (fun b hb => (hown8.lt b hb).1))
      have HFIN2 := Lib.hid hfin
      clear hfin hown7 hg7 hat7 hb7 hown8 hg8 hat8 hb8 hown9 hg9 hat9 HFIN
      go_ret
      exact HFIN2.out
    · have hck' : ¬ (cap : Int) = (k : Int) := by omega
      rw [if_neg hck] at hs3
      rcases A with _ | ⟨bA, oA, sA⟩
      · simp only [Option.map_none] at hs3
        have HS3 := Lib.hid hs3
        clear hs3
        go_wp2_with (first | (at_builtin; refine wpList_append_src _ rfl (.tmp 31) (.tmp 34) 27 rfl wr.heap.size 29 i0 _ 3 48 Tryz.underlying27 hi0 hz0 hz1 hz2 rfl (by omega) _ 0 [] rfl HE.out _ k _ _ rfl (HS1.out.later (below_alloc1 wr _)) HO1.out (by unfold maxLen; omega) (by omega) (by rw [size_alloc1]; omega) ?_; intro A7 c7 w7 hown7 hg7 hat7; simp only [Nat.zero_add, List.nil_append] at hown7 hg7 hat7 ⊢; have hb7 := own_made_below hg7; obtain ⟨x0, x1, x2⟩ := (BXr.out.later hb7).cells) | (at_builtin; refine wpList_append_src _ rfl (.tmp 36) (.tmp 38) 27 rfl wr.heap.size 29 i0 _ 3 48 Tryz.underlying27 hi0 hz0 hz1 hz2 rfl (by omega) _ k _ rfl (own_later hown7 (below_alloc1 w7 _)) _ 1 1 [.int .i64 t.kind, .string t.name, .slice At t.kids.length ct] rfl (Src.newsU _ _ _ 3 rfl) HO2.out (by unfold maxLen; omega) (by omega) (size_alloc_le hb7) ?_; intro A8 c8 w8 hown8 hg8 hat8; have hb8 := own_push_below hb7 hown7.lt hg8) | (at_builtin; refine wpList_append_src _ rfl (.tmp 40) (.tmp 43) 27 rfl wr.heap.size 29 i0 _ 3 48 Tryz.underlying27 hi0 hz0 hz1 hz2 rfl (by omega) _ (k + 1) _ rfl hown8 _ (L.length - k) _ _ rfl (HS3.out.later hb8) HO3.out (by unfold maxLen; omega) (by omega) (show _ ≤ w8.heap.size from hb8.size) ?_; intro A9 c9 w9 hown9 hg9 hat9))
        have hfin := HFIN.out _ A9 c9 w9 hown9 (hb8.grown hg9 (show _ ≤ w8.heap.size from hb8.size) (fun b hb => (hown8.lt b hb).1))
        have HFIN2 := Lib.hid hfin
        clear hfin hown7 hg7 hat7 hb7 hown8 hg8 hat8 hb8 hown9 hg9 hat9 HFIN
        go_ret
        exact HFIN2.out
      · simp only [Option.map_some] at hs3
        have HS3 := Lib.hid hs3
        clear hs3
        go_wp2_with (first | (at_builtin; refine wpList_append_src _ rfl (.tmp 31) (.tmp 34) 27 rfl wr.heap.size 29 i0 _ 3 48 Tryz.underlying27 hi0 hz0 hz1 hz2 rfl (by omega) _ 0 [] rfl HE.out _ k _ _ rfl (HS1.out.later (below_alloc1 wr _)) HO1.out (by unfold maxLen; omega) (by omega) (by rw [size_alloc1]; omega) ?_; intro A7 c7 w7 hown7 hg7 hat7; simp only [Nat.zero_add, List.nil_append] at hown7 hg7 hat7 ⊢; have hb7 := own_made_below hg7; obtain ⟨x0, x1, x2⟩ := (BXr.out.later hb7).cells) | (at_builtin; refine wpList_append_src _ rfl (.tmp 36) (.tmp 38) 27 rfl wr.heap.size 29 i0 _ 3 48 Tryz.underlying27 hi0 hz0 hz1 hz2 rfl (by omega) _ k _ rfl (own_later hown7 (below_alloc1 w7 _)) _ 1 1 [.int .i64 t.kind, .string t.name, .slice At t.kids.length ct] rfl (Src.newsU _ _ _ 3 rfl) HO2.out (by unfold maxLen; omega) (by omega) (size_alloc_le hb7) ?_; intro A8 c8 w8 hown8 hg8 hat8; have hb8 := own_push_below hb7 hown7.lt hg8) | (at_builtin; refine wpList_append_src _ rfl (.tmp 40) (.tmp 43) 27 rfl wr.heap.size 29 i0 _ 3 48 Tryz.underlying27 hi0 hz0 hz1 hz2 rfl (by omega) _ (k + 1) _ rfl hown8 _ (L.length - k) _ _ rfl (HS3.out.later hb8) HO3.out (by unfold maxLen; omega) (by omega) (show _ ≤ w8.heap.size from hb8.size) ?_; intro A9 c9 w9 hown9 hg9 hat9))
        have hfin := HFIN.out _ A9 c9 w9 hown9 (hb8.grown hg9 (show _ ≤ w8.heap.size from hb8.size) (fun b hb => (hown8.lt b hb).1))
        have HFIN2 := Lib.hid hfin
        clear hfin hown7 hg7 hat7 hb7 hown8 hg8 hat8 hb8 hown9 hg9 hat9 HFIN
        go_ret
        exact HFIN2.out
end Go.Proofs.YtihbmgkbipeakaaGreat
