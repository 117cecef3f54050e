/- Several texts in one: StrBnd, WebD, StrDel, WebL. -/
import Derived.Test.YtihbmgkbipeakaaGreatWebG14
import Derived.Test.YtihbmgkbipeakaaGreatWebG15
import Derived.Test.YtihbmgkbipeakaaGreatWebG3
import Derived.Deep.RegionLaw
import Derived.Lib.SliceRun
import Derived.Test.YtihbmgkbipeakaaGreatWebG4
import Derived.Test.YtihbmgkbipeakaaGreatShelfG
import Derived.Shelf.SlicesE.Clone
namespace Go.Proofs.YtihbmgkbipeakaaGreat
open Go.RowKit

attribute [local go_sem ↓] Go.wp_at_zero Go.wp_at_succ

open T
theorem pos_lt (s : ByteArray) : ∀ (L : List Bd) (i : Nat) (h : i < L.length), i < T.pos s L → T.less L[i].var s = true
  | x :: r, i, h, hp => by
    simp only [T.pos] at hp
    split at hp
    · rename_i hx
      cases i with
      | zero => exact hx
      | succ i => exact pos_lt s r i (by simpa using h) (by omega)
    · omega
theorem pos_at (s : ByteArray) : ∀ (L : List Bd) (h : T.pos s L < L.length), T.less L[T.pos s L].var s = false
  | x :: r, h => by
    by_cases hx : T.less x.var s = true
    · have e : T.pos s (x :: r) = T.pos s r + 1 := by simp only [T.pos]; rw [if_pos hx]
      have h' : T.pos s r < r.length := by rw [e] at h; simpa using h
      have := pos_at s r h'
      simp only [e, List.getElem_cons_succ]
      exact this
    · have e : T.pos s (x :: r) = 0 := by simp only [T.pos]; rw [if_neg hx]
      simp only [e, List.getElem_cons_zero]
      exact Bool.eq_false_iff.2 hx
theorem pos_ge {s : ByteArray} {L : List Bd} (hu : UpB L) {i : Nat} (h : i < L.length) (hp : T.pos s L ≤ i) : T.less L[i].var s = false := by
  have h1 := pos_at s L (by omega)
  rcases Nat.lt_or_ge (T.pos s L) i with g | g
  · rw [Bool.eq_false_iff]
    intro e
    have := T.less_trans (hu.at (by omega) h g) e
    rw [h1] at this; cases this
  · obtain rfl : T.pos s L = i := by omega
    exact h1
/-- The same, told by the comparison. -/
theorem pos_iff {s : ByteArray} {L : List Bd} (hu : UpB L) {i : Nat} (h : i < L.length) : T.less L[i].var s = decide (i < T.pos s L) := by
  by_cases hp : i < T.pos s L
  · rw [pos_lt s L i h hp, decide_eq_true hp]
  · rw [pos_ge hu h (by omega), decide_eq_false hp]

theorem cb_less : ∀ a b : List UInt8, decide (Lib.compareBytes a b < 0) = Op.bytesLess a b
  | [], [] => rfl
  | [], _ :: _ => rfl
  | _ :: _, [] => rfl
  | a :: u, b :: v => by
    have ih := cb_less u v
    simp only [Lib.compareBytes, Op.bytesLess]
    by_cases h1 : a < b
    · simp [h1]
    · by_cases h2 : b < a
      · simp [h1, h2]
        intro e; subst e; exact absurd h2 h1
      · have e : a = b := UInt8.toNat_inj.1 (by rw [UInt8.lt_iff_toNat_lt] at h1 h2; omega)
        simp [e, ih]
set_option maxRecDepth 100000 in
set_option maxHeartbeats 4000000 in
theorem ocmp_bind (x s : ByteArray) (k : Int) (nm : ByteArray) (A : Option Addr) (n c : Nat) (w : World) :
    Calls Tryz.prog 146 #[.agg #[.string x, .int .i64 k, .string nm, .slice A n c], .string s] w fun e w' => ∃ r : Int, e = .returned (.int .i64 r) ∧ decide (r < 0) = T.less x s ∧ Below w.heap.size w w' := by
  have hw := below_alloc1 w (.cells #[.string x, .int .i64 k, .string nm, .slice A n c] 66)
  have hnw := heap_alloc_new w (.cells #[.string x, .int .i64 k, .string nm, .slice A n c] 66)
  go_enter Tryz.func146, Tryz.ntmps146
  go_upto_region 1 with fail
  generalize w.alloc (.cells #[.string x, .int .i64 k, .string nm, .slice A n c] 66) = w1 at hw hnw ⊢
  have y0 : w1.cell? ⟨w.heap.size, 0, none⟩ = some (.string x) := by unfold World.cell?; rw [hnw]; rfl
  have HW := Lib.hid hw
  clear hw hnw
  go_wp2_with fail
  refine (Tryz.strings_Compare x s _).mono ?_; rintro e w2 ⟨rfl, rfl⟩
  go_wp2_with fail
  go_ret
  refine ⟨_, rfl, ?_, HW.out⟩
  rw [cb_less]
  unfold T.less
  rw [ByteArray.toList_eq, ByteArray.toList_eq]

set_option maxRecDepth 100000 in
set_option maxHeartbeats 8000000 in
theorem osearch (s : ByteArray) (L : List Bd) (A : Option Addr) (cap : Nat) (w : World) (hv : BindsAt w (.slice A L.length cap) L) (hu : UpB L) (h0 : 0 < L.length) (hn : L.length ≤ 1048576) :
    Calls Tryz.prog 145 #[.slice A L.length cap, .string s, .func (.func 146) #[] #[]] w fun e w' => ∃ q : Bool, e = .returned (.tuple #[.int .i64 (T.pos s L : Int), .bool q]) ∧ Below w.heap.size w w' := by
  obtain ⟨n, hn'⟩ : ∃ n, L.length = n := ⟨_, rfl⟩
  obtain ⟨p, hp⟩ : ∃ p, T.pos s L = p := ⟨_, rfl⟩
  have hpl := pos_le s L
  have HPI := Lib.hid (fun i (h : i < L.length) => pos_iff (s := s) hu h)
  have HV := Lib.hid hv; have HN := Lib.hid hn'
  rw [hp] at hpl HPI ⊢
  rw [hn'] at hpl hn h0 ⊢
  clear hv hu hn' hp
  go_enter Tryz.func145, Tryz.ntmps145
  go_wp2_with fail
  go_loopw [9, 10] (fun i j wr => ∃ a b : Nat, i = .int .i64 a ∧ j = .int .i64 b ∧ a ≤ p ∧ p ≤ b ∧ b ≤ n ∧ Below w.heap.size w wr) (fun i j _ => (intOf j).toNat - (intOf i).toNat)
  case atStart => exact ⟨0, n, rfl, rfl, Nat.zero_le _, hpl, Nat.le_refl _, Below.refl _ _⟩
  case round =>
    obtain ⟨a, b, rfl, rfl, hap, hpb, hbn, hbw⟩ := hrel
    by_cases hlt : a < b
    · obtain ⟨h, hh⟩ : ∃ h, (a + b) / 2 = h := ⟨_, rfl⟩
      have hah : a ≤ h := by omega
      have hhb : h < b := by omega
      have hhl : h < L.length := by rw [HN.out]; omega
      have hv' := HV.out
      obtain ⟨blk, off, B, c, rfl, d0', d1', d2', d3', ht, hsz⟩ := hv'.get hhl
      have hpi := HPI.out h hhl
      obtain ⟨x, hx⟩ : ∃ x, L[h] = x := ⟨_, rfl⟩
      rw [hx] at d0' d1' d2' d3' hpi
      have d0 := cell_later hbw d0'; have d1 := cell_later hbw d1'; have d2 := cell_later hbw d2'; have d3 := cell_later hbw d3'
      have hi : (a : Int) < (b : Int) := by omega
      have hw1 : IntKind.i64.wrap ((a : Int) + (b : Int)) = (a : Int) + (b : Int) := by rw [IntKind.wrap_i64]; omega
      have hh0 : (0 : Int) ≤ (h : Int) ∧ (h : Int) < (n : Int) := by omega
      obtain ⟨hh0, hh1⟩ := hh0
      have HBW := Lib.hid hbw; have HAB := Lib.hid (show a ≤ h ∧ h < b ∧ b ≤ n ∧ a ≤ p ∧ p ≤ b from ⟨hah, hhb, hbn, hap, hpb⟩)
      clear hv' ht hsz hx hhl d0' d1' d2' d3' hbw hah hhb hbn hap hpb hlt
      go_wp2_with fail
      rw [hh]
      go_wp2_with fail
      refine (ocmp_bind x.var s x.t.kind x.t.name B x.t.kids.length c _).mono ?_; rintro e w2 ⟨r, rfl, hr, hb2⟩
      have HB2 := Lib.hid (HBW.out.trans (hb2.mono HBW.out.size))
      rw [hpi] at hr
      clear hb2 d0 d1 d2 d3 hpi
      by_cases hhp : h < p
      · have hr0 : r < 0 := of_decide_eq_true (by rw [hr]; exact decide_eq_true hhp)
        have HHP := Lib.hid hhp
        clear hr hhp
        go_wp2_with fail
        go_roundw
        case rel => exact ⟨h + 1, b, by go_num, rfl, HHP.out, HAB.out.2.2.2.2, HAB.out.2.2.1, HB2.out⟩
        case measure => have := HAB.out; simp [intOf]; omega
      · have hr0 : ¬ r < 0 := fun e => by rw [decide_eq_true e] at hr; exact hhp (of_decide_eq_true hr.symm)
        have HHP := Lib.hid hhp
        clear hr hhp
        go_wp2_with fail
        go_roundw
        case rel => exact ⟨a, h, rfl, by congr 1; omega, HAB.out.2.2.2.1, by have := HHP.out; omega, by have := HAB.out; omega, HB2.out⟩
        case measure => have := HAB.out; simp [intOf]; omega
    · obtain rfl : a = p := by omega
      obtain rfl : a = b := by omega
      have hi : ¬ (a : Int) < (a : Int) := by omega
      have HBW := Lib.hid hbw
      by_cases hpn : a < n
      · have hhl : a < L.length := by rw [HN.out]; omega
        obtain ⟨blk, off, B, c, rfl, d0', d1', d2', d3', ht, hsz⟩ := HV.out.get hhl
        obtain ⟨x, hx⟩ : ∃ x, L[a] = x := ⟨_, rfl⟩
        rw [hx] at d0' d1' d2' d3'
        have d0 := cell_later hbw d0'; have d1 := cell_later hbw d1'; have d2 := cell_later hbw d2'; have d3 := cell_later hbw d3'
        have hh0 : (0 : Int) ≤ (a : Int) ∧ (a : Int) < (n : Int) := by omega
        obtain ⟨hh0, hh1⟩ := hh0
        clear ht hsz hx hhl d0' d1' d2' d3' hbw hap hpb hbn
        go_wp2_with fail
        refine (ocmp_bind x.var s x.t.kind x.t.name B x.t.kids.length c _).mono ?_; rintro e w2 ⟨r, rfl, hr, hb2⟩
        have HB2 := Lib.hid (HBW.out.trans (hb2.mono HBW.out.size))
        clear hb2 d0 d1 d2 d3 hr
        go_wp2_with fail
        go_ret2
        exact ⟨_, rfl, HB2.out⟩
      · have hpn' : ¬ (a : Int) < (n : Int) := by omega
        clear hbw
        go_wp2_with fail
        go_ret2
        exact ⟨.inl rfl, HBW.out⟩

theorem osearch_all (s : ByteArray) (L : List Bd) (v : Value) (w : World) (hv : BindsAt w v L) (hu : UpB L) (hn : L.length ≤ 1048576) :
    Calls Tryz.prog 145 #[v, .string s, .func (.func 146) #[] #[]] w fun e w' => ∃ q : Bool, e = .returned (.tuple #[.int .i64 (T.pos s L : Int), .bool q]) ∧ Below w.heap.size w w' := by
  rcases Nat.eq_zero_or_pos L.length with h0 | h0
  · rcases hv with ⟨rfl, rfl⟩ | ⟨_, _, _, _, _, h1, _⟩
    · refine (search_nil s _ w).mono ?_
      rintro e w' ⟨rfl, rfl⟩
      exact ⟨false, rfl, Below.refl _ _⟩
    · omega
  · obtain ⟨A, cap, rfl, _, _⟩ := hv.shape
    exact osearch s L A cap w hv hu h0 hn
theorem oclone_all (L : List Bd) (v : Value) (w : World) (hv : BindsAt w v L) (hn : L.length ≤ 1000000) :
    Calls Tryz.prog 149 #[v] w fun e w' => ∃ A2 c2 xs, e = .returned (.slice A2 L.length c2) ∧ w'.ownsRow w.heap.size 66 4 (.slice A2 L.length c2) L.length xs ∧ BC w xs L ∧ Below w.heap.size w w' := by
  rcases Nat.eq_zero_or_pos L.length with h0 | h0
  · rcases hv with ⟨rfl, rfl⟩ | ⟨_, _, _, _, _, h1, _⟩
    · refine (clone_nil w).mono ?_
      rintro e w' ⟨rfl, rfl⟩
      exact ⟨none, 0, [], rfl, World.ownsRow_nil _ _ _ _, BC.nil _, Below.refl _ _⟩
    · omega
  · obtain ⟨A, cap, rfl, _, _⟩ := hv.shape
    refine (oclone_b L A cap w hv h0 hn).mono ?_
    rintro e w' ⟨g2, c2, xs, h⟩
    exact ⟨_, c2, xs, h⟩
set_option maxRecDepth 100000 in
set_option maxHeartbeats 4000000 in
theorem oinsert_nil {base : Nat} (vs : List Value) (vb : Nat) (w : World) (hbase : base ≤ w.heap.size) (hv : w.heap[vb]? = some (.cells vs.toArray 66 (0, 0))) (hvl : vs.length = 4) (h1v : ∀ u ∈ vs, u.oneCell' = true) :
    Calls Tryz.prog 148 #[.slice none 0 0, .int .i64 0, .slice (some ⟨vb, 0, none⟩) 1 1] w fun e w' => ∃ A' c', e = .returned (.slice A' 1 c') ∧ w'.ownsRow base 66 4 (.slice A' 1 c') 1 vs ∧ Below base w w' := by
  obtain ⟨i0, hi0, hz0, hz1, hz2⟩ := info_parts Tryz.infoB
  have HOWN := Lib.hid (World.ownsRow_nil w base 66 4)
  have HV := Lib.hid hv; have H1 := Lib.hid h1v; have HVL := Lib.hid hvl
  clear hv h1v hvl
  go_enter Tryz.func148, Tryz.ntmps148
  go_wp2_with (at_builtin; refine wpList_append_lies _ rfl _ _ 62 rfl base 66 i0 _ 4 64 Tryz.underlying62 hi0 hz0 hz1 hz2 rfl (by omega) _ 0 _ rfl HOWN.out ⟨vb, 0, none⟩ 1 1 vs rfl HVL.out (World.news_of_block HV.out) H1.out (by omega) (by unfold maxLen; omega) (by omega) hbase _ rfl ?_; intro g4 cap4 w4 hown4 hg4 hat4 hlt4)
  go_ret
  rw [List.nil_append] at hown4
  exact ⟨_, _, rfl, hown4, (Below.refl _ _).grown hg4 hbase (fun k hk => by cases hk)⟩
theorem oinsert_all {base : Nat} (n cap i : Nat) (A : Option Addr) (xs vs : List Value) (vb : Nat) (w : World) (hn : n ≤ 1000000) (hi : i ≤ n) (hown : w.ownsRow base 66 4 (.slice A n cap) n xs) (hbase : base ≤ w.heap.size)
    (hv : w.heap[vb]? = some (.cells vs.toArray 66 (0, 0))) (hvl : vs.length = 4) (hvb : (Value.slice A n cap).ownBlock ≠ some vb) (h1x : ∀ u ∈ xs, u.oneCell' = true) (h1v : ∀ u ∈ vs, u.oneCell' = true) :
    Calls Tryz.prog 148 #[.slice A n cap, .int .i64 i, .slice (some ⟨vb, 0, none⟩) 1 1] w fun e w' => ∃ A' c', e = .returned (.slice A' (n + 1) c') ∧ w'.ownsRow base 66 4 (.slice A' (n + 1) c') (n + 1) (xs.take (i * 4) ++ vs ++ xs.drop (i * 4)) ∧ Below base w w' := by
  rcases hown.2 with ⟨e, h0⟩ | ⟨g, cap', cur, e, _⟩
  · injection e with e1 e2 e3
    subst e1; subst e2; subst e3
    obtain rfl : i = 0 := by omega
    have hx : xs = [] := List.length_eq_zero_iff.1 (by have := hown.1; omega)
    subst hx
    have := oinsert_nil (base := base) vs vb w hbase hv hvl h1v
    simpa using this
  · injection e with e1 e2 e3
    subst e1
    exact oinsert n cap i g xs vs vb w hn hi hown hbase hv hvl (fun e => hvb (by rw [e]; rfl)) h1x h1v
set_option maxRecDepth 100000 in
set_option maxHeartbeats 8000000 in
theorem obind (s : ByteArray) (L : List Bd) (t : T) (bv v : Value) (w : World) (hb : BindsAt w bv L) (hu : UpB L) (hn : L.length ≤ 1000000) (hs : s.size ≤ maxLen) (ht : TermAt w v t) :
    Calls Tryz.prog 119 #[bv, .string s, v] w fun e w' => ∃ v', e = .returned v' ∧ BindsAt w' v' (ins L s t) ∧ Below w.heap.size w w' := by
  obtain ⟨A, cap, rfl⟩ := TermIn.view ht.inAll
  have bx := Box.new w (.int .i64 t.kind) (.string t.name) (.slice A t.kids.length cap)
  have hw := below_alloc1 w (.cells #[.int .i64 t.kind, .string t.name, .slice A t.kids.length cap] 29)
  have HT := Lib.hid ht; have HB := Lib.hid hb; have HU := Lib.hid hu; have HS := Lib.hid hs
  obtain ⟨p, hp⟩ : ∃ p, T.pos s L = p := ⟨_, rfl⟩
  have hpl := pos_le s L
  have HSE := Lib.hid (fun W hW => osearch_all s L bv W hW hu (by omega))
  have HCL := Lib.hid (fun W hW => oclone_all L bv W hW hn)
  have HIN := Lib.hid (fun (A2 : Option Addr) (c2 : Nat) (xs : List Value) (vb : Nat) (W0 W : World) (hown : W.ownsRow W0.heap.size 66 4 (.slice A2 L.length c2) L.length xs) (hv : W.heap[vb]? = some (.cells [Value.string s, .int .i64 t.kind, .string t.name, .slice A t.kids.length cap].toArray 66 (0, 0))) (hvb : (Value.slice A2 L.length c2).ownBlock ≠ some vb) (hbc : BC W0 xs L) (hb0 : Below W0.heap.size W0 W) (hbw : Below w.heap.size w W0) =>
    show Calls Tryz.prog 148 #[.slice A2 L.length c2, .int .i64 (p : Int), .slice (some ⟨vb, 0, none⟩) 1 1] W fun e w' => ∃ v', e = .returned v' ∧ BindsAt w' v' (ins L s t) ∧ Below w.heap.size w w' from by
      have hone := (BC.one (s := s) (HT.out.later hbw) HS.out)
      refine (oinsert_all L.length c2 p A2 xs _ vb W hn (by rw [← hp]; exact pos_le s L) hown hb0.size hv rfl hvb hbc.one' hone.one').mono ?_
      rintro e w' ⟨A', c', rfl, hown', hb'⟩
      have hb2 : Below W0.heap.size W0 w' := hb0.trans hb'
      refine ⟨_, rfl, BindsAt.of_own hown' (ins_len L s t).symm ?_ (by omega), hbw.trans (hb2.mono hbw.size)⟩
      have h1 := (((hbc.take p).append hone).append (hbc.drop p)).later hb2
      unfold ins
      rw [hp]
      simpa [List.append_assoc] using h1)
  rw [hp] at HSE
  clear hpl hu hb ht hs hp hn
  go_enter Tryz.func119, Tryz.ntmps119
  go_upto_region 1 with fail
  generalize w.alloc (.cells #[.int .i64 t.kind, .string t.name, .slice A t.kids.length cap] 29) = w1 at bx hw ⊢
  have HW := Lib.hid hw; have BX := Lib.hid bx
  clear bx hw
  go_wp2_with fail
  refine (HSE.out _ (HB.out.later HW.out)).mono ?_; rintro e w2 ⟨q, rfl, hb2⟩
  have HB2 := Lib.hid (HW.out.trans (hb2.mono HW.out.size))
  obtain ⟨x0, x1, x2⟩ := (BX.out.later hb2).cells
  have BXD := Lib.hid (BX.out.later hb2.drew)
  have hbd := (HB.out.later HB2.out.drew)
  have hwa := below_alloc1 w2.drew (.cells #[.string s, .int .i64 t.kind, .string t.name, .slice A t.kids.length cap] 66)
  have HBD := Lib.hid hbd; have HBA := Lib.hid (hbd.later hwa); have HNW := Lib.hid (heap_alloc_new w2.drew (.cells #[.string s, .int .i64 t.kind, .string t.name, .slice A t.kids.length cap] 66))
  have HWA := Lib.hid hwa; have HD2 := Lib.hid HB2.out.drew
  have HWW := Lib.hid (HB2.out.drew.trans (hwa.mono HB2.out.drew.size))
  obtain ⟨n, hn⟩ : ∃ n, L.length = n := ⟨_, rfl⟩
  rw [hn] at HCL HIN
  have HNN := Lib.hid hn
  clear hb2 hbd hwa hn
  go_upto_region 2 with fail
  refine wp_region_any (by kernel_rfl) ?_
  (try (change wpAny _ _ _ _ _ _ _ (World.drew _)))
  (refine wpAny_take (i := 0) (v := ?_) (by simp only [List.getElem?_toArray, List.getElem?_cons_zero]; rfl) (by kernel_rfl) (by kernel_rfl) (by kernel_rfl) (by exact fun _ _ _ h => h) (Or.inl ⟨by rfl, ?_⟩) ?_; rotate_left 1; · (intro w; go_simp; (try with_reducible rfl)))
  (refine wpAny_take (i := 2) (v := ?_) (by simp only [List.getElem?_toArray, List.getElem?_cons_succ, List.getElem?_cons_zero]; rfl) (by kernel_rfl) (by kernel_rfl) (by kernel_rfl) (by exact fun _ _ _ h => h) (Or.inl ⟨by rfl, ?_⟩) ?_; rotate_left 1; · (intro w; go_simp; (try with_reducible rfl)))
  (refine wpAny_take (i := 3) (v := ?_) (by simp only [List.getElem?_toArray, List.getElem?_cons_succ, List.getElem?_cons_zero]; rfl) (by kernel_rfl) (by kernel_rfl) (by kernel_rfl) (by exact fun _ _ _ h => h) (Or.inl ⟨by rfl, ?_⟩) ?_; rotate_left 1; · (intro w; go_simp; (try with_reducible rfl)))
  refine wpAny_ready (rs := [1, 4]) (by kernel_rfl) (by simp) ?_
  refine AllReady.cons (by simp only [List.getElem?_toArray, List.getElem?_cons_succ, List.getElem?_cons_zero]; rfl) (fun K hK => ?_) ?_
  · (go_simp; go_at_call 149; first | (refine (HCL.out _ HBD.out).mono ?_; rintro e w3 ⟨A2, c2, xs, rfl, hown, hbc, hb3⟩; obtain ⟨z0, z1, z2⟩ := (BXD.out.later hb3).cells) | (refine (HCL.out _ HBA.out).mono ?_; rintro e w3 ⟨A2, c2, xs, rfl, hown, hbc, hb3⟩))
    (first | (refine hK _ _ ?_; clear hK K) | skip)
    refine wpAny_ready (rs := [4]) (by kernel_rfl) (by simp) ?_
    refine AllReady.cons (by simp only [List.getElem?_toArray, List.getElem?_cons_succ, List.getElem?_cons_zero]; rfl) (fun K hK => ?_) ?_
    · go_simp
      (first | (refine hK _ _ ?_; clear hK K) | skip)
      (refine wpAny_take (i := 5) (v := ?_) (by simp only [List.getElem?_toArray, List.getElem?_cons_succ, List.getElem?_cons_zero]; rfl) (by kernel_rfl) (by kernel_rfl) (by kernel_rfl) (by exact fun _ _ _ h => h) (Or.inl ⟨by rfl, ?_⟩) ?_; rotate_left 1; · (intro w; go_simp; (try with_reducible rfl)))
      refine wpAny_ready (rs := [6]) (by kernel_rfl) (by simp) ?_
      refine AllReady.cons (by simp only [List.getElem?_toArray, List.getElem?_cons_succ, List.getElem?_cons_zero]; rfl) (fun K hK => ?_) ?_
      · go_simp
        (first | (refine hK _ _ ?_; clear hK K) | skip)
        refine wpAny_ready (rs := [7]) (by kernel_rfl) (by simp) ?_
        refine AllReady.cons (by simp only [List.getElem?_toArray, List.getElem?_cons_succ, List.getElem?_cons_zero]; rfl) (fun K hK => ?_) ?_
        · (go_simp; go_at_call 148; first | (refine (HIN.out A2 c2 xs _ w2.drew _ (hown.alloc _) (heap_alloc_new w3 _) (fun e => by have := (hown.lt _ e).2; omega) hbc (hb3.trans ((below_alloc1 w3 _).mono hb3.size)) HD2.out).mono ?_; rintro e w9 ⟨v9, rfl, hv9, hb9⟩) | (refine (HIN.out A2 c2 xs _ _ _ hown ((hb3.block _ (by rw [size_alloc1]; exact Nat.lt_succ_self _)).trans HNW.out) (fun e => by have := (hown.lt _ e).1; rw [size_alloc1] at this; exact absurd this (Nat.not_succ_le_self _)) hbc hb3 HWW.out).mono ?_; rintro e w9 ⟨v9, rfl, hv9, hb9⟩))
          (first | (refine hK _ _ ?_; clear hK K) | skip)
          (refine wpAny_take (i := 8) (v := ?_) (by simp only [List.getElem?_toArray, List.getElem?_cons_succ, List.getElem?_cons_zero]; rfl) (by kernel_rfl) (by kernel_rfl) (by kernel_rfl) (by exact fun _ _ _ h => h) (Or.inl ⟨by rfl, ?_⟩) ?_; rotate_left 1; · (intro w; go_simp; (try with_reducible rfl)))
          refine wpAny_done (by kernel_rfl) ?_ _
          have HV9 := Lib.hid hv9; have HB9 := Lib.hid hb9
          clear hv9 hb9
          go_wp2_with fail
          go_ret
          exact ⟨_, rfl, HV9.out, HB9.out⟩
        exact AllReady.nil
      exact AllReady.nil
    exact AllReady.nil
  refine AllReady.cons (by simp only [List.getElem?_toArray, List.getElem?_cons_succ, List.getElem?_cons_zero]; rfl) (fun K hK => ?_) ?_
  · go_simp
    (first | (refine hK _ _ ?_; clear hK K) | skip)
    (refine wpAny_take (i := 5) (v := ?_) (by simp only [List.getElem?_toArray, List.getElem?_cons_succ, List.getElem?_cons_zero]; rfl) (by kernel_rfl) (by kernel_rfl) (by kernel_rfl) (by exact fun _ _ _ h => h) (Or.inl ⟨by rfl, ?_⟩) ?_; rotate_left 1; · (intro w; go_simp; (try with_reducible rfl)))
    refine wpAny_ready (rs := [1, 6]) (by kernel_rfl) (by simp) ?_
    refine AllReady.cons (by simp only [List.getElem?_toArray, List.getElem?_cons_succ, List.getElem?_cons_zero]; rfl) (fun K hK => ?_) ?_
    · (go_simp; go_at_call 149; first | (refine (HCL.out _ HBD.out).mono ?_; rintro e w3 ⟨A2, c2, xs, rfl, hown, hbc, hb3⟩; obtain ⟨z0, z1, z2⟩ := (BXD.out.later hb3).cells) | (refine (HCL.out _ HBA.out).mono ?_; rintro e w3 ⟨A2, c2, xs, rfl, hown, hbc, hb3⟩))
      (first | (refine hK _ _ ?_; clear hK K) | skip)
      refine wpAny_ready (rs := [6]) (by kernel_rfl) (by simp) ?_
      refine AllReady.cons (by simp only [List.getElem?_toArray, List.getElem?_cons_succ, List.getElem?_cons_zero]; rfl) (fun K hK => ?_) ?_
      · go_simp
        (first | (refine hK _ _ ?_; clear hK K) | skip)
        refine wpAny_ready (rs := [7]) (by kernel_rfl) (by simp) ?_
        refine AllReady.cons (by simp only [List.getElem?_toArray, List.getElem?_cons_succ, List.getElem?_cons_zero]; rfl) (fun K hK => ?_) ?_
        · (go_simp; go_at_call 148; first | (refine (HIN.out A2 c2 xs _ w2.drew _ (hown.alloc _) (heap_alloc_new w3 _) (fun e => by have := (hown.lt _ e).2; omega) hbc (hb3.trans ((below_alloc1 w3 _).mono hb3.size)) HD2.out).mono ?_; rintro e w9 ⟨v9, rfl, hv9, hb9⟩) | (refine (HIN.out A2 c2 xs _ _ _ hown ((hb3.block _ (by rw [size_alloc1]; exact Nat.lt_succ_self _)).trans HNW.out) (fun e => by have := (hown.lt _ e).1; rw [size_alloc1] at this; exact absurd this (Nat.not_succ_le_self _)) hbc hb3 HWW.out).mono ?_; rintro e w9 ⟨v9, rfl, hv9, hb9⟩))
          (first | (refine hK _ _ ?_; clear hK K) | skip)
          (refine wpAny_take (i := 8) (v := ?_) (by simp only [List.getElem?_toArray, List.getElem?_cons_succ, List.getElem?_cons_zero]; rfl) (by kernel_rfl) (by kernel_rfl) (by kernel_rfl) (by exact fun _ _ _ h => h) (Or.inl ⟨by rfl, ?_⟩) ?_; rotate_left 1; · (intro w; go_simp; (try with_reducible rfl)))
          refine wpAny_done (by kernel_rfl) ?_ _
          have HV9 := Lib.hid hv9; have HB9 := Lib.hid hb9
          clear hv9 hb9
          go_wp2_with fail
          go_ret
          exact ⟨_, rfl, HV9.out, HB9.out⟩
        exact AllReady.nil
      exact AllReady.nil
    refine AllReady.cons (by simp only [List.getElem?_toArray, List.getElem?_cons_succ, List.getElem?_cons_zero]; rfl) (fun K hK => ?_) ?_
    · go_simp
      (first | (refine hK _ _ ?_; clear hK K) | skip)
      refine wpAny_ready (rs := [1]) (by kernel_rfl) (by simp) ?_
      refine AllReady.cons (by simp only [List.getElem?_toArray, List.getElem?_cons_succ, List.getElem?_cons_zero]; rfl) (fun K hK => ?_) ?_
      · (go_simp; go_at_call 149; first | (refine (HCL.out _ HBD.out).mono ?_; rintro e w3 ⟨A2, c2, xs, rfl, hown, hbc, hb3⟩; obtain ⟨z0, z1, z2⟩ := (BXD.out.later hb3).cells) | (refine (HCL.out _ HBA.out).mono ?_; rintro e w3 ⟨A2, c2, xs, rfl, hown, hbc, hb3⟩))
        (first | (refine hK _ _ ?_; clear hK K) | skip)
        refine wpAny_ready (rs := [7]) (by kernel_rfl) (by simp) ?_
        refine AllReady.cons (by simp only [List.getElem?_toArray, List.getElem?_cons_succ, List.getElem?_cons_zero]; rfl) (fun K hK => ?_) ?_
        · (go_simp; go_at_call 148; first | (refine (HIN.out A2 c2 xs _ w2.drew _ (hown.alloc _) (heap_alloc_new w3 _) (fun e => by have := (hown.lt _ e).2; omega) hbc (hb3.trans ((below_alloc1 w3 _).mono hb3.size)) HD2.out).mono ?_; rintro e w9 ⟨v9, rfl, hv9, hb9⟩) | (refine (HIN.out A2 c2 xs _ _ _ hown ((hb3.block _ (by rw [size_alloc1]; exact Nat.lt_succ_self _)).trans HNW.out) (fun e => by have := (hown.lt _ e).1; rw [size_alloc1] at this; exact absurd this (Nat.not_succ_le_self _)) hbc hb3 HWW.out).mono ?_; rintro e w9 ⟨v9, rfl, hv9, hb9⟩))
          (first | (refine hK _ _ ?_; clear hK K) | skip)
          (refine wpAny_take (i := 8) (v := ?_) (by simp only [List.getElem?_toArray, List.getElem?_cons_succ, List.getElem?_cons_zero]; rfl) (by kernel_rfl) (by kernel_rfl) (by kernel_rfl) (by exact fun _ _ _ h => h) (Or.inl ⟨by rfl, ?_⟩) ?_; rotate_left 1; · (intro w; go_simp; (try with_reducible rfl)))
          refine wpAny_done (by kernel_rfl) ?_ _
          have HV9 := Lib.hid hv9; have HB9 := Lib.hid hb9
          clear hv9 hb9
          go_wp2_with fail
          go_ret
          exact ⟨_, rfl, HV9.out, HB9.out⟩
        exact AllReady.nil
      exact AllReady.nil
    exact AllReady.nil
  exact AllReady.nil
end Go.Proofs.YtihbmgkbipeakaaGreat

namespace Go.Proofs.YtihbmgkbipeakaaGreat
open Go.RowKit

theorem run_clear_three {P : Program} (w : World) (t e ty : TypeId) (z z0 z1 z2 : Value) (ht : P.underlying t = some (.slice e)) (hv : ∀ w, (zeroValue e).run P w = .ok z w) (hz : z.cells = #[z0, z1, z2]) (h1 : ∀ u ∈ [z0, z1, z2], u.oneCell' = true) (b o c : Nat)
    (hc : ∀ j, j < 3 → (w.cell? ⟨b, o + j, none⟩).isSome = true) (hf : ∀ j, j < 3 → w.frozen? ⟨b, o + j, none⟩ = false) :
    (Builtin.clear_ #[t] ty #[.slice (some ⟨b, o, none⟩) 1 c]).run P w = .ok (.tuple #[]) (w.setCells b o [z0, z1, z2]) := by
  have hzc : (Builtin.zeroCells z.cells 1).toList = [z0, z1, z2] := by
    rw [hz]
    have e : List.range 3 = [0, 1, 2] := rfl
    simp [Builtin.zeroCells, e]
  have hst := run_storeCells_cells (P := P) b o [z0, z1, z2] 0 w (by simpa using hc) (by simpa using hf) h1
  simp only [Nat.add_zero] at hst
  simp [Builtin.clear_, run_underlying ht, hv, hzc, hst]

theorem below_setCells_d {a : World} (b : Nat) : ∀ (vs : List Value) (o : Nat) {w : World}, Below b a w → Below b a (w.setCells b o vs)
  | [], _, _, h => h
  | v :: r, o, _, h => below_setCells_d b r (o + 1) (h.setCell (Nat.le_refl _) v)
end Go.Proofs.YtihbmgkbipeakaaGreat

namespace Go.Proofs.YtihbmgkbipeakaaGreat
open Go.RowKit

theorem own_keepS {w w' : World} {base : Nat} {e : TypeId} {size n : Nat} {v : Value} {xs : List Value} (h : w.ownsRow base e size v n xs) (hk : ∀ b, v.ownBlock = some b → b < w.heap.size → w'.heap[b]? = w.heap[b]?) : w'.ownsRow base e size v n xs := by
  refine ⟨h.1, ?_⟩
  rcases h.2 with h0 | ⟨g, cap, cur, hv, hb, hg, rest⟩
  · exact .inl h0
  · exact .inr ⟨g, cap, cur, hv, hb, (hk g (by rw [hv]; rfl) (Array.getElem?_eq_some_iff.1 hg).1).trans hg, rest⟩
theorem frozen_of_blockS {w w' : World} {b k : Nat} (h : w'.heap[b]? = w.heap[b]?) : w'.frozen? ⟨b, k, none⟩ = w.frozen? ⟨b, k, none⟩ := by
  unfold World.frozen?
  rw [h]

set_option maxRecDepth 100000 in
set_option maxHeartbeats 4000000 in
theorem odeleteF (b n cap i j : Nat) (cs : List Value) (w : World) (hl : cs.length = n * 3) (hij : j = i + 1) (hi : i < n) (hcap : n ≤ cap)
    (hcell : ∀ j u, cs[j]? = some u → w.cell? ⟨b, j, none⟩ = some u) (hfz : ∀ j, j < n * 3 → w.frozen? ⟨b, j, none⟩ = false) (h1 : ∀ u ∈ cs, u.oneCell' = true) :
    Calls Tryz.prog 130 #[.slice (some ⟨b, 0, none⟩) n cap, .int .i64 i, .int .i64 j] w fun e w' => e = .returned (.slice (some ⟨b, 0, none⟩) (n - 1) cap) ∧ (∀ k u, (cs.take (i * 3) ++ cs.drop (j * 3))[k]? = some u → w'.cell? ⟨b, k, none⟩ = some u) ∧ (∀ k, w'.frozen? ⟨b, k, none⟩ = w.frozen? ⟨b, k, none⟩) ∧ Below b w w' := by
  obtain ⟨i0, hi0, hz0, hz1, hz2⟩ := info_parts Tryz.infoT
  have hlt : i < j := by omega
  have hjn : j ≤ n := by omega
  have hnj : i + (n - j) = n - 1 := by omega
  have HNJ := Lib.hid hnj
  clear hnj
  obtain ⟨news, hnews⟩ : ∃ news, news = cs.drop (j * 3) := ⟨_, rfl⟩
  have hlen : news.length = (n - j) * 3 := by rw [hnews, List.length_drop, hl]; omega
  obtain ⟨A, hA, hsrc⟩ : ∃ A : Addr, (if cap = j then some (⟨b, 0, none⟩ : Addr) else some ⟨b, j * 3, none⟩) = some A ∧ Hid (∀ t u, news[t]? = some u → w.drew.cell? (A.add t) = some u) := by
    by_cases h : cap = j
    · refine ⟨⟨b, 0, none⟩, by simp [h], fun t u hu => ?_⟩
      have h0 : news.length = 0 := by rw [hlen]; omega
      rw [List.length_eq_zero_iff.1 h0] at hu
      simp at hu
    · refine ⟨⟨b, j * 3, none⟩, by simp [h], fun t u hu => ?_⟩
      rw [hnews, List.getElem?_drop] at hu
      rw [Go.WideShapes.add_plain]
      exact hcell _ u hu
  have s2 := Lib.hid (show ∀ u ∈ news, u.oneCell' = true from fun u hu => h1 u (by rw [hnews] at hu; exact List.mem_of_mem_drop hu))
  have hall : ∀ k, k < n * 3 → (w.cell? ⟨b, k, none⟩).isSome = true := fun k hk => by
    have := List.getElem?_eq_getElem (l := cs) (i := k) (by omega)
    rw [hcell k _ this]; rfl
  have s3 := Lib.hid (show ∀ t, t < news.length → (w.drew.cell? ⟨b, 0 + i * 3 + t, none⟩).isSome = true ∧ w.drew.frozen? ⟨b, 0 + i * 3 + t, none⟩ = false from fun t ht => by
    rw [hlen] at ht
    exact ⟨hall _ (by omega), hfz _ (by omega)⟩)
  obtain ⟨W1, hW1⟩ : ∃ W1, W1 = w.drew.setCells b (0 + i * 3) news := ⟨_, rfl⟩
  have HW := Lib.hid hW1
  have hcl : ∀ ty, (Builtin.clear_ #[27] ty #[.slice (some ⟨b, (i + (n - j)) * 3, none⟩) (n - (i + (n - j))) (cap - (i + (n - j)))]).run Tryz.prog W1 = .ok (.tuple #[]) (W1.setCells b ((n - 1) * 3) [.int .i64 0, .string ByteArray.empty, .slice none 0 0]) := fun ty => by
    rw [show n - (i + (n - j)) = 1 by omega, show i + (n - j) = n - 1 by omega]
    exact run_clear_three W1 _ _ ty (.agg #[.int .i64 0, .string ByteArray.empty, .slice none 0 0]) _ _ _ Tryz.underlying27 Tryz.zeroValue29 (by simp [Value.cells]) (by intro u hu; simp at hu; rcases hu with rfl | rfl | rfl <;> rfl) b ((n - 1) * 3) _
      (fun k hk => by rw [hW1]; exact World.isSome_setCells b news _ _ _ (hall _ (by omega))) (fun k hk => by rw [hW1, World.frozen?_setCells]; exact hfz _ (by omega))
  have HEND := Lib.hid (show (∀ k u, (cs.take (i * 3) ++ cs.drop (j * 3))[k]? = some u → (W1.setCells b ((n - 1) * 3) [.int .i64 0, .string ByteArray.empty, .slice none 0 0]).cell? ⟨b, k, none⟩ = some u) ∧ (∀ k, (W1.setCells b ((n - 1) * 3) [.int .i64 0, .string ByteArray.empty, .slice none 0 0]).frozen? ⟨b, k, none⟩ = w.frozen? ⟨b, k, none⟩) ∧ Below b w (W1.setCells b ((n - 1) * 3) [.int .i64 0, .string ByteArray.empty, .slice none 0 0]) by
    refine ⟨fun k u hu => ?_, fun k => by rw [World.frozen?_setCells, hW1, World.frozen?_setCells]; rfl, below_setCells_d b _ _ (by rw [hW1]; exact below_setCells_d b _ _ (Below.refl _ _).drew)⟩
    have hk : k < (n - 1) * 3 := by
      have := (List.getElem?_eq_some_iff.1 hu).1
      rw [List.length_append, List.length_take, List.length_drop] at this; omega
    rw [World.cell?_setCells_out b _ _ _ _ (fun _ _ => .inl hk), hW1]
    by_cases hki : k < i * 3
    · rw [World.cell?_setCells_out b _ _ _ _ (fun _ _ => .inl (by simp; omega))]
      rw [List.getElem?_append_left (by rw [List.length_take]; omega), List.getElem?_take_of_lt hki] at hu
      exact hcell k u hu
    · rw [List.getElem?_append_right (by rw [List.length_take]; omega), List.length_take, ← hnews] at hu
      have hm := Nat.min_eq_left (show i * 3 ≤ cs.length by omega)
      rw [hm] at hu
      obtain ⟨h2, h3⟩ := List.getElem?_eq_some_iff.1 hu
      have := World.cell?_setCells_in b news (0 + i * 3) w.drew (fun t ht => (s3.out t ht).1) (k - i * 3) h2
      rw [show 0 + i * 3 + (k - i * 3) = k by omega] at this
      rw [this, h3])
  clear hcell hfz h1 hl hall hnews hW1 hij
  have hic : i ≤ cap := by omega
  have hjc : j ≤ cap := by omega
  go_enter Tryz.func130, Tryz.ntmps130
  go_wp2_with fail
  go_region_law (refine step_append_room rfl (.tmp 22) (.tmp 25) 27 rfl 29 i0 3 Tryz.underlying27 hi0 hz1 b 0 i cap (by simp [Act.eval, Act.put]) A (n - j) (cap - j) news (by simp [Act.eval, Act.put]; done) hlen hsrc.out s2.out (by omega) s3.out ?_; rw [← HW.out])
  clear hA hlen
  have hlow : i + (n - j) ≤ n := by omega
  have hlc : n ≤ cap := hcap
  go_wp2_with fail
  go_ret
  exact ⟨by rw [HNJ.out]; rfl, HEND.out.1, HEND.out.2.1, HEND.out.2.2⟩
end Go.Proofs.YtihbmgkbipeakaaGreat

namespace Go.Proofs.YtihbmgkbipeakaaGreat
open Go.RowKit

theorem CT.of_term {S : Nat → Bool} {w : World} {k : Int} {s : ByteArray} {b off n cap : Nat} {t : T} (h : TermIn S w (.agg #[.int .i64 k, .string s, .slice (some ⟨b, off, none⟩) n cap]) t) : ∃ xs, CT S w xs t.kids ∧ ∀ j u, xs[j]? = some u → w.cell? ⟨b, off + j, none⟩ = some u := by
  cases h with
  | mk k s A cap ks U h1 h2 h3 h4 hA hU =>
  have key : ∀ {q : Addr} {v : Value}, (only w S).cell? q = some v → w.cell? q = some v := fun {q v} hq => by
    rw [cell_only] at hq
    split at hq
    · exact hq
    · cases hq
  show ∃ xs, CT S w xs ks ∧ _
  have hc : ∀ i, i < ks.length → w.cell? ⟨b, off + i * 3, none⟩ = some (U i).1 ∧ w.cell? ⟨b, off + i * 3 + 1, none⟩ = some (U i).2.1 ∧ w.cell? ⟨b, off + i * 3 + 2, none⟩ = some (U i).2.2 := fun i hi => by
    rcases hA with h0 | ⟨b', off', e, hc⟩
    · omega
    · injection e with e; injection e with e1 e2; subst e1; subst e2
      obtain ⟨a, b, c⟩ := hc i hi
      exact ⟨key a, key b, key c⟩
  clear hA
  have main : ∀ (m : Nat), m ≤ ks.length → ∃ xs, CT S w xs (ks.take m) ∧ ∀ j u, xs[j]? = some u → w.cell? ⟨b, off + j, none⟩ = some u := by
    intro m
    induction m with
    | zero => exact fun _ => ⟨[], by rw [List.take_zero]; exact CT.nil S w, fun j u hu => by simp at hu⟩
    | succ m ih =>
      intro hm
      obtain ⟨xs, h5, h6⟩ := ih (by omega)
      have hl : xs.length = m * 3 := by rw [h5.1, List.length_take, Nat.min_eq_left (by omega)]
      obtain ⟨c0, c1, c2⟩ := hc m (by omega)
      refine ⟨xs ++ [(U m).1, (U m).2.1, (U m).2.2], ?_, fun j u hu => ?_⟩
      · rw [List.take_succ_eq_append_getElem (by omega)]
        exact h5.append (CT.one (hU m (by omega)))
      · by_cases hj : j < m * 3
        · rw [List.getElem?_append_left (by omega)] at hu
          exact h6 j u hu
        · rw [List.getElem?_append_right (by omega), hl] at hu
          obtain ⟨d, rfl⟩ : ∃ d, j = m * 3 + d := ⟨j - m * 3, by omega⟩
          rw [Nat.add_sub_cancel_left] at hu
          match d, hu with
          | 0, hu => injection hu with hu; subst hu; exact c0
          | 1, hu => injection hu with hu; subst hu; exact c1
          | 2, hu => injection hu with hu; subst hu; exact c2
          | d + 3, hu => simp at hu
  obtain ⟨xs, h5, h6⟩ := main ks.length (Nat.le_refl _)
  rw [List.take_of_length_le (Nat.le_refl _)] at h5
  exact ⟨xs, h5, h6⟩
theorem CT.term {S : Nat → Bool} {w : World} {xs : List Value} {L : List T} {b cap : Nat} (h : CT S w xs L) (hc : ∀ j u, xs[j]? = some u → w.cell? ⟨b, j, none⟩ = some u) (hS : S b = true) (k : Int) (s : ByteArray) (hk : -9223372036854775808 ≤ k ∧ k ≤ 9223372036854775807) (hs : s.size ≤ maxLen) (hl : L.length ≤ cap) (hm : cap ≤ maxLen) :
    TermIn S w (.agg #[.int .i64 k, .string s, .slice (some ⟨b, 0, none⟩) L.length cap]) (.mk k s L) := by
  have hx : ∀ i (hi : i < L.length), ∃ x : Value × Value × Value, xs[i * 3]? = some x.1 ∧ xs[i * 3 + 1]? = some x.2.1 ∧ xs[i * 3 + 2]? = some x.2.2 ∧ TermIn S w (.agg #[x.1, x.2.1, x.2.2]) L[i] := fun i hi => by
    obtain ⟨u0, u1, u2, a, b, c, d⟩ := h.2 i hi
    exact ⟨(u0, u1, u2), a, b, c, d⟩
  refine .mk k s _ cap L (fun i => if hi : i < L.length then (hx i hi).choose else (undef, undef, undef)) hk hs hl hm (.inr ⟨b, 0, rfl, fun i hi => ?_⟩) (fun i hi => ?_)
  · rw [dif_pos hi]
    obtain ⟨a, b', c, _⟩ := (hx i hi).choose_spec
    rw [cell_only, cell_only, cell_only, if_pos hS, if_pos hS, if_pos hS, Nat.zero_add]
    exact ⟨hc _ _ a, hc _ _ b', hc _ _ c⟩
  · rw [dif_pos hi]
    exact (hx i hi).choose_spec.2.2.2
theorem CT.erase {S : Nat → Bool} {w : World} {xs : List Value} {L : List T} (h : CT S w xs L) (i : Nat) : CT S w (xs.take (i * 3) ++ xs.drop ((i + 1) * 3)) (L.eraseIdx i) := by
  rw [List.eraseIdx_eq_take_drop_succ]
  exact (h.take i).append (h.drop (i + 1))
/-- The kids are cloned. -/
theorem oclone {S : Nat → Bool} {k : Int} {s : ByteArray} {b off n cap : Nat} {t : T} (w : World) (h : TermIn S w (.agg #[.int .i64 k, .string s, .slice (some ⟨b, off, none⟩) n cap]) t) (hn : n = t.kids.length) (h0 : 0 < n) (h4 : n ≤ 1048576) :
    Calls Tryz.prog 131 #[.slice (some ⟨b, off, none⟩) n cap] w fun e w' => ∃ g2 c2 xs, e = .returned (.slice (some ⟨g2, 0, none⟩) n c2) ∧ w'.ownsRow w.heap.size 29 3 (.slice (some ⟨g2, 0, none⟩) n c2) n xs ∧ CT S w xs t.kids ∧ Below w.heap.size w w' := by
  obtain ⟨i0, hi0, hz0, hz1, hz2⟩ := info_parts Tryz.infoT
  obtain ⟨xs, hct, hc⟩ := CT.of_term h
  have hcon := AnyE.slices_Clone (P := Tryz.prog) Tryz.layCl i0 _ 3 48 hi0 hz0 hz1 hz2 rfl (by omega) (fun w => Tryz.sizeOf29 w) b off n cap xs w (by rw [hct.1, hn]) (by unfold maxLen; omega) (by omega) hc hct.one'
  change Calls Tryz.prog 131 _ _ _ at hcon
  refine hcon.mono ?_
  rintro e w' ⟨v', rfl, hown, _, hb⟩
  obtain ⟨g2, c2, rfl, _⟩ := hown.form h0
  exact ⟨g2, c2, xs, rfl, hown, hct, hb⟩
end Go.Proofs.YtihbmgkbipeakaaGreat
