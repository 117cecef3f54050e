/- Several texts in one: WebU, TermCmpD, TermStrOf, TermText, WebP, StrGather. -/
import Derived.Test.YtihbmgkbipeakaaGreatWebG5
import Derived.Test.YtihbmgkbipeakaaGreatWebG3
import Derived.Test.YtihbmgkbipeakaaGreatWebG1
import Derived.Deep.RegionHeld3
import Derived.Sort.Grow
import Derived.Test.YtihbmgkbipeakaaGreatShelf
import Derived.Lib.Join
namespace Go.Proofs.YtihbmgkbipeakaaGreat
open Go.RowKit

/-- Does a term count. -/
def T.use (t : T) : Bool := t.ground && t.isN
theorem use_f {t : T} (h : t.ground = false) : t.use = false := by unfold T.use; rw [h]; rfl
theorem use_t {t : T} (h : t.ground = true) : t.use = t.isN := by unfold T.use; rw [h]; rfl
theorem T.use_valid {t : T} (h : t.use = true) : t.valid = true := ((T.isN_iff t).1 (Bool.and_eq_true_iff.1 h).2).1
set_option maxRecDepth 100000 in
set_option maxHeartbeats 4000000 in
theorem ousable (t : T) (v : Value) (w : World) (ht : TermAt w v t) (hbk : t.bulk ≤ 1048576) :
    Calls Tryz.prog 50 #[v] w fun e w' => e = .returned (.bool t.use) ∧ Below w.heap.size w w' := by
  have HG := Lib.hid (fun v' W hW => oground t v' W hW hbk)
  have HI := Lib.hid (fun v' W hW => oisn t v' W hW hbk)
  have h1 := use_f (t := t)
  have h2 := use_t (t := t)
  obtain ⟨q, hq⟩ : ∃ q, t.use = q := ⟨_, rfl⟩
  rw [hq] at h1 h2 ⊢
  generalize t.ground = p at h1 h2 HG
  generalize t.isN = r at h2 HI
  have H1 := Lib.hid h1; have H2 := Lib.hid h2
  clear h1 h2 hq
  cases ht with
  | mk k s A cap ks U h1 h2 h3 h4 hA hU =>
  have ht := TermAt.mk k s A cap ks U h1 h2 h3 h4 hA hU
  go_enter Tryz.func50, Tryz.ntmps50
  go_upto_region 1 with fail
  have bx := Box.new w (.int .i64 k) (.string s) (.slice A ks.length cap)
  have hw := below_alloc1 w (.cells #[.int .i64 k, .string s, .slice A ks.length cap] 29)
  have HT := Lib.hid (ht.later hw); have HW := Lib.hid hw
  clear ht hA hU hw
  generalize w.alloc (.cells #[.int .i64 k, .string s, .slice A ks.length cap] 29) = w1 at bx HT HW ⊢
  obtain ⟨x0, x1, x2⟩ := bx.cells
  have BX := Lib.hid bx
  clear bx
  go_wp2_with fail
  refine (HG.out _ _ HT.out).mono ?_; rintro e w2 ⟨rfl, hb2⟩
  have HB := Lib.hid (HW.out.trans (hb2.mono HW.out.size))
  have HT2 := Lib.hid (HT.out.later hb2)
  obtain ⟨y0, y1, y2⟩ := (BX.out.later hb2).cells
  clear hb2 x0 x1 x2
  cases p with
  | false =>
    go_wp2_with fail
    go_ret
    exact ⟨ret_bool (H1.out trivial).symm, HB.out⟩
  | true =>
    go_wp2_with fail
    refine (HI.out _ _ HT2.out).mono ?_; rintro e w3 ⟨rfl, hb3⟩
    have HB3 := Lib.hid (HB.out.trans (hb3.mono HB.out.size))
    clear hb3
    go_wp2_with fail
    go_ret
    exact ⟨ret_bool (H2.out trivial).symm, HB3.out⟩

theorem TermsRow.push {w w1 w3 : World} {base : Nat} {v : Value} {L : List T} {t : T} {A8 : Option Addr} {c8 : Nat} {xs : List Value} {u0 u1 u2 : Value} {o : Obj} (hct : CT (but base v.ownBlock) w xs L) (hv : ∀ b, v.ownBlock = some b → b < w.heap.size) (hbase : base ≤ w.heap.size)
    (hb : Below w.heap.size w w1) (ht : TermIn (from_ w.heap.size) w1 (.agg #[u0, u1, u2]) t) (hown : w3.ownsRow base 29 3 (.slice A8 (L.length + 1) c8) (L.length + 1) (xs ++ [u0, u1, u2]))
    (hg : (w1.alloc o).grownBy w3 v.ownBlock) (hat : A8.map (·.block) = v.ownBlock ∨ A8.map (·.block) = some (w1.alloc o).heap.size) : TermsRow w3 base (.slice A8 (L.length + 1) c8) (L ++ [t]) := by
  obtain ⟨g8, cap, e, _⟩ := hown.form (by omega)
  injection e with e1 e2 e3
  subst e1; subst e3
  have hb' := hb.trans ((below_alloc1 w1 o).mono hb.size)
  refine TermsRow.snoc (w := w1.alloc o) (H := (w1.alloc o).heap.size) (fun i hi => ?_) hct.1 ?_ hown hg ?_ rfl
  · obtain ⟨a0, a1, a2, b0, b1, b2, b3⟩ := hct.2 i hi
    exact ⟨a0, a1, a2, b0, b1, b2, b3.keep fun b hb2 hl => ⟨hb2, hb'.block b hl⟩⟩
  · refine ht.keep fun b hbb hl => ⟨but_iff.2 ⟨by have := of_decide_eq_true hbb; omega, fun e => by have := hv b e; have := of_decide_eq_true hbb; omega⟩, Below.heap_alloc w1 o b hl⟩
  · rcases hat with h | h
    · exact .inl h.symm
    · right; injection h
/-- A list of terms as a slice holds it. -/
def KnownAt (w : World) (A : Option Addr) (cap : Nat) (L : List T) : Prop := TermAt w (.agg #[.int .i64 0, .string ⟨#[]⟩, .slice A L.length cap]) (.mk 0 ⟨#[]⟩ L)
theorem KnownAt.later {w w' : World} {A : Option Addr} {cap : Nat} {L : List T} (h : KnownAt w A cap L) (hb : Below w.heap.size w w') : KnownAt w' A cap L := TermAt.later h hb
theorem TermAt.inv {w : World} {v : Value} {t : T} (h : TermAt w v t) : ∃ (A : Option Addr) (cap : Nat) (U : Nat → Value × Value × Value), v = .agg #[.int .i64 t.kind, .string t.name, .slice A t.kids.length cap] ∧ t.kids.length ≤ cap ∧ cap ≤ maxLen ∧
    (t.kids.length = 0 ∨ ∃ b off, A = some ⟨b, off, none⟩ ∧ ∀ i, i < t.kids.length → w.cell? ⟨b, off + i * 3, none⟩ = some (U i).1 ∧ w.cell? ⟨b, off + i * 3 + 1, none⟩ = some (U i).2.1 ∧ w.cell? ⟨b, off + i * 3 + 2, none⟩ = some (U i).2.2) ∧
    (∀ i (h : i < t.kids.length), TermAt w (.agg #[(U i).1, (U i).2.1, (U i).2.2]) t.kids[i]) := by
  cases h with
  | mk k s A cap ks U h1 h2 h3 h4 hA hU => exact ⟨A, cap, U, rfl, h3, h4, hA, hU⟩
theorem KnownAt.inv {w : World} {A : Option Addr} {cap : Nat} {L : List T} (h : KnownAt w A cap L) : ∃ U : Nat → Value × Value × Value, L.length ≤ cap ∧ cap ≤ maxLen ∧ (L.length = 0 ∨ ∃ b off, A = some ⟨b, off, none⟩ ∧ ∀ i, i < L.length → w.cell? ⟨b, off + i * 3, none⟩ = some (U i).1 ∧ w.cell? ⟨b, off + i * 3 + 1, none⟩ = some (U i).2.1 ∧ w.cell? ⟨b, off + i * 3 + 2, none⟩ = some (U i).2.2) ∧
    (∀ i (h : i < L.length), TermAt w (.agg #[(U i).1, (U i).2.1, (U i).2.2]) L[i]) := by
  obtain ⟨A', cap', U, e, h1, h2, h3, h4⟩ := TermAt.inv h
  injection e with e; injection e with e; injection e with _ e; injection e with _ e; injection e with e _
  injection e with e1 _ e3
  subst e1; subst e3
  exact ⟨U, h1, h2, h3, h4⟩
theorem KnownAt.get {w : World} {A : Option Addr} {cap : Nat} {L : List T} (h : KnownAt w A cap L) {i : Nat} (hi : i < L.length) : ∃ b off A' cap', A = some ⟨b, off, none⟩ ∧ w.cell? ⟨b, off + i * 3, none⟩ = some (.int .i64 L[i].kind) ∧ w.cell? ⟨b, off + i * 3 + 1, none⟩ = some (.string L[i].name) ∧
    w.cell? ⟨b, off + i * 3 + 2, none⟩ = some (.slice A' L[i].kids.length cap') ∧ TermAt w (.agg #[.int .i64 L[i].kind, .string L[i].name, .slice A' L[i].kids.length cap']) L[i] := by
  obtain ⟨U, _, _, hA, hU⟩ := h.inv
  exact TermAt.cells hi hA hU
theorem KnownAt.cap_le {w : World} {A : Option Addr} {cap : Nat} {L : List T} (h : KnownAt w A cap L) : L.length ≤ cap ∧ cap ≤ maxLen := by
  obtain ⟨U, h1, h2, _⟩ := h.inv
  exact ⟨h1, h2⟩
theorem own_shapeU {w : World} {base : Nat} {e : TypeId} {size n : Nat} {v : Value} {xs : List Value} (h : w.ownsRow base e size v n xs) : ∃ A c, v = .slice A n c := by
  rcases h.2 with ⟨rfl, rfl⟩ | ⟨g, cap, cur, rfl, _⟩
  · exact ⟨_, _, rfl⟩
  · exact ⟨_, _, rfl⟩
theorem Src.newsU (w : World) (cs : List Value) (e : TypeId) (size : Nat) (h : cs.length = size) : Src (w.alloc (.cells cs.toArray e)) size (some ⟨w.heap.size, 0, none⟩) 1 cs := by
  refine ⟨by omega, .inr ⟨_, 0, rfl, fun j u hu => ?_⟩⟩
  rw [Nat.zero_add]
  have e := heap_alloc_new w (.cells cs.toArray e)
  unfold World.cell?; rw [e]; simpa using hu
/-- The terms that count. -/
def cnt (L : List T) : List T := (L.take 64).filter T.use
theorem cnt_succ (L : List T) (j : Nat) (h : j < L.length) : (L.take (j + 1)).filter T.use = if L[j].use = true then (L.take j).filter T.use ++ [L[j]] else (L.take j).filter T.use := by
  rw [List.take_succ_eq_append_getElem h, List.filter_append]
  by_cases hu : L[j].use = true
  · rw [if_pos hu]; simp [hu]
  · rw [if_neg hu]; simp [hu]

set_option maxRecDepth 100000 in
set_option maxHeartbeats 8000000 in
theorem ocounted (L : List T) (A : Option Addr) (cap : Nat) (w : World) (h : KnownAt w A cap L) (hb : ∀ t ∈ L, t.bulk ≤ 1048576) :
    Calls Tryz.prog 39 #[.slice A L.length cap] w fun e w' => ∃ v', e = .returned v' ∧ TermsRow w' w.heap.size v' (cnt L) ∧ Below w.heap.size w w' := by
  obtain ⟨i0, hi0, hz0, hz1, hz2⟩ := info_parts Tryz.infoT
  obtain ⟨m, hm⟩ : ∃ m, m = min L.length 64 := ⟨_, rfl⟩
  have hm1 : m ≤ L.length := by omega
  have hm2 : m ≤ 64 := by omega
  have HM := Lib.hid hm
  have hcap := h.cap_le
  unfold maxLen at hcap
  have HKN := Lib.hid h; have HBK := Lib.hid hb
  obtain ⟨n, hn⟩ : ∃ n, L.length = n := ⟨_, rfl⟩
  have HN := Lib.hid hn
  rw [hn] at hm1 hm hcap ⊢
  obtain ⟨hcap1, hcap2⟩ := hcap
  clear h hb hn
  go_enter Tryz.func39, Tryz.ntmps39
  go_upto_region 2 with fail
  go_cut [10, 11, 12] from 6 to 13 (fun s10 s11 s12 W' => s10 = .slice A m cap ∧ s11 = .int .i64 m ∧ s12 = .int .i64 0 ∧ w = W')
  case first =>
    by_cases h64 : 64 < n
    · have e : m = 64 := by omega
      subst e
      have h64' : (64 : Int) < (n : Int) := by omega
      have hc64 : (64 : Int) ≤ (cap : Int) := by omega
      clear hm h64
      go_wp2_with fail
      go_meet
      exact ⟨by first | rfl | (congr 1; omega), by first | rfl | (congr 1; omega), rfl, rfl⟩
    · have e : m = n := by omega
      subst e
      have h64' : ¬ ((64 : Int) < (m : Int)) := by omega
      clear hm h64
      go_wp2_with fail
      go_meet
      exact ⟨by first | rfl | (congr 1; omega), by first | rfl | (congr 1; omega), rfl, rfl⟩
  case rest =>
    obtain ⟨rfl, rfl, rfl, rfl⟩ := hcut
    clear hm
    have HST := Lib.hid (show TermsRow w w.heap.size (.slice none 0 0) ((L.take 0).filter T.use) ∧ Below w.heap.size w w from ⟨TermsRow.nil _ _, Below.refl _ _⟩)
    go_upto_region 3 with fail
    go_loopw [12, 3] (fun i l wr => ∃ j : Nat, j ≤ m ∧ i = .int .i64 j ∧ TermsRow wr w.heap.size l ((L.take j).filter T.use) ∧ Below w.heap.size w wr) (fun i _ _ => m - (intOf i).toNat)
    case atStart => exact ⟨0, Nat.zero_le _, rfl, HST.out.1, HST.out.2⟩
    case round =>
      obtain ⟨j, hj, rfl, hrow, hbw⟩ := hrel
      by_cases hlt : j < m
      · have hjL : j < L.length := by have := HM.out; omega
        obtain ⟨b, off, A1, c1, rfl, d0, d1, d2, hu⟩ := (HKN.out.later hbw).get hjL
        have hi : (j : Int) < (m : Int) := by omega
        have hwa := below_alloc1 wr (.cells #[.int .i64 (L[j]'(hjL)).kind, .string (L[j]'(hjL)).name, .slice A1 (L[j]'(hjL)).kids.length c1] 29)
        have bk := Box.new wr (.int .i64 (L[j]'(hjL)).kind) (.string (L[j]'(hjL)).name) (.slice A1 (L[j]'(hjL)).kids.length c1)
        have HSC := Lib.hid (cnt_succ L j hjL)
        have hbk2 := HBK.out (L[j]'(hjL)) (List.getElem_mem hjL)
        have HU := Lib.hid (hu.later hwa)
        obtain ⟨t, ht⟩ : ∃ t, L[j]'(hjL) = t := ⟨_, rfl⟩
        rw [ht] at d0 d1 d2 hwa bk HSC hbk2 HU
        have HUS := Lib.hid (fun v' W hW => ousable t v' W hW hbk2); have HCP := Lib.hid (fun v' W hW => ocopy (t.bulk + 1) t v' W (by omega) hW hbk2)
        have HROW := Lib.hid (hrow.later hwa); have HBW := Lib.hid (hbw.trans (hwa.mono hbw.size)); have HLT := Lib.hid hlt
        clear hrow hbw hu ht hjL hbk2
        go_upto_region 5 with fail
        generalize wr.alloc (.cells #[.int .i64 t.kind, .string t.name, .slice A1 t.kids.length c1] 29) = wa at *
        obtain ⟨k0, k1, k2⟩ := bk.cells
        have BK := Lib.hid bk
        clear bk d0 d1 d2 hwa
        go_wp2_with fail
        refine (HUS.out _ _ HU.out).mono ?_; rintro e w2 ⟨rfl, hb2⟩
        have HB2 := Lib.hid (HBW.out.trans (hb2.mono HBW.out.size)); have HROW2 := Lib.hid (HROW.out.later hb2); have HU2 := Lib.hid (HU.out.later hb2); have BK2 := Lib.hid (BK.out.later hb2)
        clear hb2 k0 k1 k2
        cases hu : t.use with
        | false =>
          have HE := Lib.hid (show (L.take (j + 1)).filter T.use = (L.take j).filter T.use by rw [HSC.out, hu]; rfl)
          clear hu
          go_wp2_with fail
          go_roundw
          case rel => exact ⟨j + 1, HLT.out, by go_num, by rw [HE.out]; exact HROW2.out, HB2.out⟩
          case measure => have := HLT.out; simp [intOf]; omega
        | true =>
          have HE := Lib.hid (show (L.take (j + 1)).filter T.use = (L.take j).filter T.use ++ [t] by rw [HSC.out, hu]; rfl)
          clear hu
          obtain ⟨k0, k1, k2⟩ := BK2.out.cells
          obtain ⟨xs, hown, hct⟩ := HROW2.out.cells
          have HBLK := Lib.hid HROW2.out.block
          have HOWN := Lib.hid hown; have HCT := Lib.hid hct
          have hlen : ((L.take j).filter T.use).length ≤ 64 := Nat.le_trans (List.length_filter_le _ _) (by rw [List.length_take]; omega)
          generalize (L.take j).filter T.use = L0 at HOWN HCT HBLK hlen HE
          obtain ⟨A7, c7, rfl⟩ := own_shapeU HOWN.out
          clear hown hct
          go_wp2_with fail
          refine (HCP.out _ _ HU2.out).mono ?_; rintro e w3 ⟨A3, C3, rfl, hti, hb3⟩
          have hwb := below_alloc1 w3 (.cells #[.int .i64 t.kind, .string t.name, .slice A3 t.kids.length C3] 29)
          have HOWN3 := Lib.hid (own_later (own_later HOWN.out hb3) hwb)
          have HONE := Lib.hid hti.one
          have hz3 : w.heap.size ≤ (w3.alloc (.cells #[.int .i64 t.kind, .string t.name, .slice A3 t.kids.length C3] 29)).heap.size := by rw [size_alloc1]; have := hb3.size; have := HB2.out.size; omega
          have HPUSH := Lib.hid (fun w8 A8 c8 hown8 hg8 hat8 => TermsRow.push (base := w.heap.size) (w3 := w8) (A8 := A8) (c8 := c8) (o := .cells #[.int .i64 t.kind, .string t.name, .slice A3 t.kids.length C3] 29 (0, 0)) HCT.out (fun b e => (HBLK.out b e).2) HB2.out.size hb3 hti hown8 hg8 hat8)
          have HB3 := Lib.hid ((HB2.out.trans (hb3.mono HB2.out.size)).trans (hwb.mono (Nat.le_trans HB2.out.size hb3.size)))
          clear hb3 hti hwb k0 k1 k2
          go_wp2_with (at_builtin; refine wpList_append_src _ rfl _ _ 27 rfl w.heap.size 29 i0 _ 3 48 Tryz.underlying27 hi0 hz0 hz1 hz2 rfl (by omega) _ _ _ rfl HOWN3.out _ 1 1 [.int .i64 t.kind, .string t.name, .slice A3 t.kids.length C3] rfl (Src.newsU _ _ _ 3 rfl) HONE.out (by unfold maxLen; omega) (by omega) hz3 ?_; intro A8 c8 w8 hown8 hg8 hat8; have HR8 := Lib.hid (HPUSH.out _ _ _ hown8 hg8 hat8); have HB8 := Lib.hid (HB3.out.grown hg8 HB3.out.size (fun k hk => (HBLK.out k hk).1)); clear hown8 hg8 hat8)
          go_roundw
          case rel => exact ⟨j + 1, HLT.out, by go_num, by rw [HE.out]; exact HR8.out, HB8.out⟩
          case measure => have := HLT.out; simp [intOf]; omega
      · obtain rfl : j = m := by omega
        have HR := Lib.hid hrow; have HB := Lib.hid hbw
        have HE := Lib.hid (show (L.take j).filter T.use = cnt L by
          unfold cnt
          have := HM.out
          by_cases h : L.length ≤ 64
          · rw [List.take_of_length_le (by omega), List.take_of_length_le h]
          · rw [show j = 64 by omega])
        clear hrow hbw
        go_wp2_with fail
        go_ret
        exact ⟨_, rfl, by rw [← HE.out]; exact HR.out, HB.out⟩
end Go.Proofs.YtihbmgkbipeakaaGreat

namespace Go.Proofs.YtihbmgkbipeakaaGreat
open Go.RowKit

/-- Below, and the draws have not become fewer. -/
structure BelowD (B : Nat) (w w' : World) : Prop extends Below B w w' where
  drawn : w.drawn ≤ w'.drawn
theorem BelowD.refl (B : Nat) (w : World) : BelowD B w w := ⟨Below.refl B w, Nat.le_refl _⟩
theorem BelowD.trans {B : Nat} {a b c : World} (h : BelowD B a b) (k : BelowD B b c) : BelowD B a c := ⟨h.toBelow.trans k.toBelow, Nat.le_trans h.drawn k.drawn⟩
theorem BelowD.mono {B B' : Nat} {w w' : World} (h : BelowD B w w') (hB : B' ≤ B) : BelowD B' w w' := ⟨h.toBelow.mono hB, h.drawn⟩
theorem BelowD.drew {B : Nat} {a w : World} (h : BelowD B a w) : BelowD B a w.drew := ⟨h.toBelow.drew, Nat.le_succ_of_le h.drawn⟩
theorem BelowD.alloc {B : Nat} {a w : World} (h : BelowD B a w) (hB : B ≤ w.heap.size) (o : Obj) : BelowD B a (w.alloc o) := ⟨h.toBelow.alloc hB o, h.drawn⟩
theorem below_two (w : World) (a b c a' b' c' : Value) (t : TypeId) : BelowD w.heap.size w ((w.alloc (.cells #[a, b, c] t)).alloc (.cells #[a', b', c'] t)) := ⟨(boxed_two w a b c a' b' c' t).2.2, Nat.le_refl _⟩

set_option maxRecDepth 100000 in
set_option maxHeartbeats 2000000 in
/-- slices.CompareFunc over two lists of kids, given what Compare says of each pair. -/
theorem cmp_funcD (A A' : Option Addr) (cap cap' : Nat) (ks ks' : List T) (U U' : Nat → Value × Value × Value) (w : World) (hkn : ks.length ≤ 1048576) (_hkn' : ks'.length ≤ 1048576)
    (hA : ks.length = 0 ∨ ∃ b off, A = some ⟨b, off, none⟩ ∧ ∀ i, i < ks.length → w.cell? ⟨b, off + i * 3, none⟩ = some (U i).1 ∧ w.cell? ⟨b, off + i * 3 + 1, none⟩ = some (U i).2.1 ∧ w.cell? ⟨b, off + i * 3 + 2, none⟩ = some (U i).2.2)
    (hU : ∀ i (h : i < ks.length), TermAt w (.agg #[(U i).1, (U i).2.1, (U i).2.2]) ks[i])
    (hA' : ks'.length = 0 ∨ ∃ b off, A' = some ⟨b, off, none⟩ ∧ ∀ i, i < ks'.length → w.cell? ⟨b, off + i * 3, none⟩ = some (U' i).1 ∧ w.cell? ⟨b, off + i * 3 + 1, none⟩ = some (U' i).2.1 ∧ w.cell? ⟨b, off + i * 3 + 2, none⟩ = some (U' i).2.2)
    (hU' : ∀ i (h : i < ks'.length), TermAt w (.agg #[(U' i).1, (U' i).2.1, (U' i).2.2]) ks'[i])
    (hC : ∀ j (h : j < ks.length) (h' : j < ks'.length) (v v' : Value) (W : World), TermAt W v ks[j] → TermAt W v' ks'[j] → Calls Tryz.prog 103 #[v, v'] W fun e w' => e = .returned (.int .i64 (T.cmp ks[j] ks'[j])) ∧ BelowD W.heap.size W w') :
    Calls Tryz.prog 137 #[.slice A ks.length cap, .slice A' ks'.length cap', .func (.func 103) #[] #[]] w fun e w' =>
      e = .returned (.int .i64 (T.cmpAll ks ks')) ∧ BelowD w.heap.size w w' := by
  have HC := Lib.hid hC; clear hC
  go_enter Tryz.func137, Tryz.ntmps137
  go_wp2_with fail
  go_loopw [13] (fun i wr => ∃ j : Nat, j ≤ ks.length ∧ j ≤ ks'.length ∧ i = .int .i64 j ∧ (∀ m (h : m < j) (h1 : m < ks.length) (h2 : m < ks'.length), T.cmp ks[m] ks'[m] = 0) ∧ BelowD w.heap.size w wr) (fun i _ => ks.length - (intOf i).toNat)
  case atStart => exact ⟨0, Nat.zero_le _, Nat.zero_le _, rfl, fun m h => absurd h (by omega), BelowD.refl _ _⟩
  case round =>
    obtain ⟨j, hj, hj', rfl, hz, hbl⟩ := hrel
    have HZ := Lib.hid hz; clear hz
    by_cases hlt : j < ks.length
    · obtain ⟨b, off, B1, C1, rfl, d0, d1, d2, hu⟩ := TermAt.cells hlt hA hU
      have e0 := cell_later hbl.toBelow d0; have e1 := cell_later hbl.toBelow d1; have e2 := cell_later hbl.toBelow d2
      have hi : (j : Int) < (ks.length : Int) := by omega
      clear d0 d1 d2
      by_cases hlt' : j < ks'.length
      · obtain ⟨b', off', B1', C1', rfl, d0', d1', d2', hu'⟩ := TermAt.cells hlt' hA' hU'
        have e0' := cell_later hbl.toBelow d0'; have e1' := cell_later hbl.toBelow d1'; have e2' := cell_later hbl.toBelow d2'
        clear d0' d1' d2'
        have hi' : (j : Int) < (ks'.length : Int) := by omega
        have f0 := cell_later ((Below.refl wr.heap.size wr).alloc (Nat.le_refl _) (.cells #[.int .i64 ks[j].kind, .string ks[j].name, .slice B1 ks[j].kids.length C1] 29)) e0'
        have f1 := cell_later ((Below.refl wr.heap.size wr).alloc (Nat.le_refl _) (.cells #[.int .i64 ks[j].kind, .string ks[j].name, .slice B1 ks[j].kids.length C1] 29)) e1'
        have f2 := cell_later ((Below.refl wr.heap.size wr).alloc (Nat.le_refl _) (.cells #[.int .i64 ks[j].kind, .string ks[j].name, .slice B1 ks[j].kids.length C1] 29)) e2'
        have hb2 := below_two wr (.int .i64 ks[j].kind) (.string ks[j].name) (.slice B1 ks[j].kids.length C1) (.int .i64 ks'[j].kind) (.string ks'[j].name) (.slice B1' ks'[j].kids.length C1') 29
        have HU := Lib.hid ((hu.later hbl.toBelow).later hb2.toBelow); have HU' := Lib.hid ((hu'.later hbl.toBelow).later hb2.toBelow)
        have HLT := Lib.hid hlt; have HLT' := Lib.hid hlt'
        have HAT := Lib.hid (fun hn => T.cmpAll_at ks ks' j hlt hlt' (fun m g => HZ.out m g (by omega) (by omega)) hn)
        obtain ⟨c, hcv⟩ : ∃ c, T.cmp ks[j] ks'[j] = c := ⟨_, rfl⟩
        have HCV := Lib.hid hcv
        have hc := HC.out j hlt hlt'
        have HC' := Lib.hid hc
        clear hcv hc hu hu'
        go_wp2_with fail
        refine (HC'.out _ _ _ HU.out HU'.out).mono ?_; rintro e w2 ⟨he, hb4⟩
        have he' : e = .returned (.int .i64 c) := he.trans (ret_i64 HCV.out)
        clear he; subst he'
        replace hb4 := hbl.trans ((hb2.trans (hb4.mono hb2.size)).mono hbl.size)
        clear f0 f1 f2 e0 e1 e2 e0' e1' e2'
        by_cases hc0 : c = 0
        · subst hc0
          go_wp2_with fail
          go_roundw
          case rel =>
            refine ⟨j + 1, HLT.out, HLT'.out, by go_num, fun m h g1 g2 => ?_, hb4⟩
            rcases Nat.lt_or_ge m j with g | g
            · exact HZ.out m g g1 g2
            · obtain rfl : m = j := by omega
              exact HCV.out
          case measure => have := HLT.out; simp [intOf]; omega
        · have hne : (c != 0) = true := by rw [bne_iff_ne]; exact hc0
          have HR := Lib.hid (HAT.out (fun h => hc0 (HCV.out.symm.trans h)))
          go_wp2_with fail
          go_ret
          exact ⟨ret_i64 (HCV.out.symm.trans HR.out.symm), hb4⟩
      · have hi' : (ks'.length : Int) ≤ (j : Int) := by omega
        have HL := Lib.hid (show T.cmpAll ks ks' = 1 by rw [T.cmpAll_len ks ks' (fun m g1 g2 => HZ.out m (by omega) g1 g2), if_neg (by omega), if_pos (by omega)])
        have hu1 := Lib.hid hu
        clear hu
        go_wp2_with fail
        go_ret
        exact ⟨ret_i64 HL.out.symm, hbl.alloc hbl.size _⟩
    · have hi : (ks.length : Int) ≤ (j : Int) := by omega
      have hl := T.cmpAll_len ks ks' (fun m g1 g2 => HZ.out m (by omega) g1 g2)
      by_cases g1 : ks.length < ks'.length
      · rw [if_pos g1] at hl
        have HL := Lib.hid hl; clear hl
        have q1 : (ks.length : Int) < (ks'.length : Int) := by omega
        go_wp2_with fail
        go_ret
        exact ⟨ret_i64 HL.out.symm, hbl⟩
      · rw [if_neg g1, if_neg (by omega)] at hl
        have HL := Lib.hid hl; clear hl
        have q1 : (ks'.length : Int) ≤ (ks.length : Int) := by omega
        go_wp2_with fail
        go_ret
        exact ⟨ret_i64 HL.out.symm, hbl⟩
/-- Six cells and a bound, as they stand while memory is made. -/
theorem six_laterD {w1 W W2 : World} {p0 p1 p2 p3 p4 p5 : Addr} {v0 v1 v2 v3 v4 v5 : Value} (h : W.cell? p0 = some v0 ∧ W.cell? p1 = some v1 ∧ W.cell? p2 = some v2 ∧ W.cell? p3 = some v3 ∧ W.cell? p4 = some v4 ∧ W.cell? p5 = some v5 ∧ BelowD w1.heap.size w1 W)
    (hb : BelowD W.heap.size W W2) : W2.cell? p0 = some v0 ∧ W2.cell? p1 = some v1 ∧ W2.cell? p2 = some v2 ∧ W2.cell? p3 = some v3 ∧ W2.cell? p4 = some v4 ∧ W2.cell? p5 = some v5 ∧ BelowD w1.heap.size w1 W2 := by
  obtain ⟨h0, h1, h2, h3, h4, h5, h6⟩ := h
  exact ⟨cell_later hb.toBelow h0, cell_later hb.toBelow h1, cell_later hb.toBelow h2, cell_later hb.toBelow h3, cell_later hb.toBelow h4, cell_later hb.toBelow h5, h6.trans (hb.mono h6.size)⟩

set_option maxRecDepth 100000 in
set_option maxHeartbeats 4000000 in
theorem ocmpD : ∀ (N : Nat) (t t' : T) (v v' : Value) (w : World), t.bulk < N → TermAt w v t → TermAt w v' t' → t.bulk ≤ 1048576 → t'.bulk ≤ 1048576 →
    Calls Tryz.prog 103 #[v, v'] w fun e w' => e = .returned (.int .i64 (t.cmp t')) ∧ BelowD w.heap.size w w' := by
  intro N
  induction N with
  | zero => intro t t' v v' w h; omega
  | succ N ih =>
    intro t t' v v' w hN ht ht' hbk hbk'
    cases ht with
    | mk k s A cap ks U h1 h2 h3 h4 hA hU =>
    cases ht' with
    | mk k' s' A' cap' ks' U' h1' h2' h3' h4' hA' hU' =>
      simp only [T.bulk] at hN hbk hbk'
      have hkn : ks.length ≤ 1048576 := by have := T.len_le ks; omega
      have hkn' : ks'.length ≤ 1048576 := by have := T.len_le ks'; omega
      rw [T.cmp_or3]
      obtain ⟨hbx, hbx', _⟩ := boxed_two w (.int .i64 k) (.string s) (.slice A ks.length cap) (.int .i64 k') (.string s') (.slice A' ks'.length cap') 29
      have hb1 := below_two w (.int .i64 k) (.string s) (.slice A ks.length cap) (.int .i64 k') (.string s') (.slice A' ks'.length cap') 29
      have ht := TermAt.mk k s A cap ks U h1 h2 h3 h4 hA hU
      go_enter Tryz.func103, Tryz.ntmps103
      go_upto_region 1 with fail
      generalize (w.alloc (.cells #[.int .i64 k, .string s, .slice A ks.length cap] 29)).alloc (.cells #[.int .i64 k', .string s', .slice A' ks'.length cap'] 29) = w1 at hbx hbx' hb1 ⊢
      obtain ⟨x0, x1, x2⟩ := hbx
      obtain ⟨y0, y1, y2⟩ := hbx'
      have bA := Lib.hid hA; have bU := Lib.hid hU; have bA' := Lib.hid hA'; have bU' := Lib.hid hU'
      have hF : ∀ W, BelowD w1.heap.size w1 W → Calls Tryz.prog 137 #[.slice A ks.length cap, .slice A' ks'.length cap', .func (.func 103) #[] #[]] W fun e w' =>
          e = .returned (.int .i64 (T.cmpAll ks ks')) ∧ BelowD W.heap.size W w' := fun W hW => by
        have hWw := hb1.trans (hW.mono hb1.size)
        refine cmp_funcD A A' cap cap' ks ks' U U' W hkn hkn' ?_ (fun i h => (hU i h).later hWw.toBelow) ?_ (fun i h => (hU' i h).later hWw.toBelow) ?_
        · rcases hA with h | ⟨b, off, e, hc⟩
          · exact .inl h
          · exact .inr ⟨b, off, e, fun i hi => by obtain ⟨c0, c1, c2⟩ := hc i hi; exact ⟨cell_later hWw.toBelow c0, cell_later hWw.toBelow c1, cell_later hWw.toBelow c2⟩⟩
        · rcases hA' with h | ⟨b, off, e, hc⟩
          · exact .inl h
          · exact .inr ⟨b, off, e, fun i hi => by obtain ⟨c0, c1, c2⟩ := hc i hi; exact ⟨cell_later hWw.toBelow c0, cell_later hWw.toBelow c1, cell_later hWw.toBelow c2⟩⟩
        · intro j h h' v v' W' hv hv'
          have := T.bulk_at ks j h; have := T.bulk_at ks' j h'
          exact ih _ _ _ _ _ (by omega) hv hv' (by omega) (by omega)
      have HF := Lib.hid hF
      clear hA hU hA' hU' ht hF
      go_region_held3 (fun W => W.cell? ⟨w.heap.size, 0, none⟩ = some (.int .i64 k) ∧ W.cell? ⟨w.heap.size, 1, none⟩ = some (.string s) ∧ W.cell? ⟨w.heap.size, 2, none⟩ = some (.slice A ks.length cap) ∧ W.cell? ⟨w.heap.size + 1, 0, none⟩ = some (.int .i64 k') ∧ W.cell? ⟨w.heap.size + 1, 1, none⟩ = some (.string s') ∧ W.cell? ⟨w.heap.size + 1, 2, none⟩ = some (.slice A' ks'.length cap') ∧ BelowD w1.heap.size w1 W)
        (first | exact ⟨x0, x1, x2, y0, y1, y2, BelowD.refl _ _⟩ | exact ⟨x0, x1, x2, y0, y1, y2, (BelowD.refl _ _).drew⟩ | exact six_laterD (by assumption) hb4 | exact six_laterD (by assumption) ((BelowD.refl _ _).alloc (Nat.le_refl _) _) | go_keep)
        (first | (go_at_call 135; refine (cmp_int _ _ _).mono ?_; rintro e w' ⟨rfl, rfl⟩) | (go_at_call 136; refine (cmp_str _ _ _).mono ?_; rintro e w' ⟨rfl, rfl⟩) | (go_at_call 137; refine (HF.out _ (by first | assumption | exact BelowD.refl _ _ | exact (BelowD.refl _ _).drew)).mono ?_; rintro e w2 ⟨rfl, hb4⟩) | (go_at_call 134; refine (cmp_or _ _ _ _ _ _ (boxed_new _ _ _ _ _).1 (boxed_new _ _ _ _ _).2.1 (boxed_new _ _ _ _ _).2.2).mono ?_; rintro e w' ⟨rfl, rfl⟩))
      all_goals
        rename_i hS
        have hb5 := hS.2.2.2.2.2.2
        clear hS x0 x1 x2 y0 y1 y2
        go_wp2_with fail
        go_ret
        exact ⟨rfl, hb1.trans (hb5.mono hb1.size)⟩
/-- As the sort asks it. -/
theorem BelowD.grow {w w' : World} (h : BelowD w.heap.size w w') : ∃ q os, w' = Go.Sort.grow (w.drewN q) os := by
  refine ⟨w'.drawn - w.drawn, w'.heap.extract w.heap.size w'.heap.size, ?_⟩
  have hd := h.drawn
  have hh : w'.heap = w.heap ++ w'.heap.extract w.heap.size w'.heap.size := by
    apply Array.ext_getElem?
    intro i
    have hs := h.size
    rw [Array.getElem?_append]
    split
    · rename_i hi; exact h.block i hi
    · rename_i hi
      rw [Array.getElem?_extract]
      split
      · congr 1; omega
      · rw [Array.getElem?_eq_none (by omega)]
  obtain ⟨h1, t1, d1, o1, u1⟩ := w'
  have e1 := h.os; have e2 := h.tape; have e3 := h.output
  dsimp only at hd hh e1 e2 e3 ⊢
  unfold Go.Sort.grow World.drewN
  dsimp only
  congr 1
  omega
end Go.Proofs.YtihbmgkbipeakaaGreat

namespace Go.Proofs.YtihbmgkbipeakaaGreat
open Go.RowKit

/-- A text as a string. -/
def strOf (l : List UInt8) : ByteArray := ⟨l.toArray⟩
theorem strOf_size (l : List UInt8) : (strOf l).size = l.length := str_size l
theorem strOf_data (l : List UInt8) : (strOf l).data.toList = l := by simp [strOf]
end Go.Proofs.YtihbmgkbipeakaaGreat

namespace Go.Proofs.YtihbmgkbipeakaaGreat
open Go.RowKit

namespace T
/-- What stands in front of the kids. -/
def headS (k : Int) : List UInt8 := if k = 4 then [104, 97, 115, 104] else if k = 5 then [115, 101, 97, 108] else if k = 6 then [115, 105, 103, 110] else [112, 111, 119, 101, 114]
mutual
/-- A term as text. -/
def text : T → List UInt8
  | .mk k s ks => if k = 1 then s.data.toList else if k = 2 then 63 :: s.data.toList else if k = 3 then [60] ++ textAll ks ++ [62] else headS k ++ [40] ++ textAll ks ++ [41]
def textAll : List T → List UInt8
  | [] => []
  | t :: r => text t ++ textTail r
/-- The further kids, each behind a comma. -/
def textTail : List T → List UInt8
  | [] => []
  | t :: r => [44, 32] ++ text t ++ textTail r
end
theorem textTail_join : ∀ l : List T, textTail l = Lib.joinTail [44, 32] (l.map text)
  | [] => rfl
  | t :: r => by simp [textTail, Lib.joinTail, textTail_join r]
theorem textAll_join : ∀ l : List T, textAll l = Lib.join (l.map text) [44, 32]
  | [] => rfl
  | t :: r => by rw [List.map_cons, Lib.join_cons, ← textTail_join]; rfl
theorem headS_len (k : Int) : (headS k).length ≤ 5 := by
  unfold headS; repeat' split
  all_goals simp
mutual
theorem text_len : ∀ t : T, t.text.length + 2 ≤ 3 * t.bulk
  | .mk k s ks => by
    have h := textAll_len ks
    have h' := headS_len k
    simp only [text, bulk]
    repeat' split
    all_goals simp <;> omega
theorem textAll_len : ∀ l : List T, (textAll l).length ≤ 3 * bulkAll l
  | [] => by simp [textAll]
  | t :: r => by
    have h := text_len t
    have h' := textTail_len r
    simp only [textAll, bulkAll, List.length_append]; omega
theorem textTail_len : ∀ l : List T, (textTail l).length ≤ 3 * bulkAll l
  | [] => by simp [textTail]
  | t :: r => by
    have h := text_len t
    have h' := textTail_len r
    simp only [textTail, bulkAll, List.length_append, List.length_cons, List.length_nil]; omega
end
end T
theorem ohead (k : Int) (w : World) : Calls Tryz.prog 189 #[.int .i64 k] w fun e w' => e = .returned (.string ⟨(T.headS k).toArray⟩) ∧ w = w' := by
  have hc : (k = 4 ∧ T.headS k = [104, 97, 115, 104]) ∨ (k = 5 ∧ T.headS k = [115, 101, 97, 108]) ∨ (k = 6 ∧ T.headS k = [115, 105, 103, 110]) ∨ (((k == 4) = false ∧ (k == 5) = false ∧ (k == 6) = false) ∧ T.headS k = [112, 111, 119, 101, 114]) := by
    unfold T.headS
    by_cases h4 : k = 4
    · left; exact ⟨h4, by rw [if_pos h4]⟩
    by_cases h5 : k = 5
    · right; left; exact ⟨h5, by rw [if_neg h4, if_pos h5]⟩
    by_cases h6 : k = 6
    · right; right; left; exact ⟨h6, by rw [if_neg h4, if_neg h5, if_pos h6]⟩
    · right; right; right; refine ⟨⟨?_, ?_, ?_⟩, by rw [if_neg h4, if_neg h5, if_neg h6]⟩ <;> (rw [beq_eq_false_iff_ne]; assumption)
  rcases hc with ⟨rfl, e⟩ | ⟨rfl, e⟩ | ⟨rfl, e⟩ | ⟨⟨g4, g5, g6⟩, e⟩
  all_goals
    have E := Lib.hid e; clear e
    go_enter Tryz.func189, Tryz.ntmps189
    go_wp2
    go_ret
    exact ⟨ret_str (by rw [E.out]), rfl⟩
end Go.Proofs.YtihbmgkbipeakaaGreat

namespace Go.Proofs.YtihbmgkbipeakaaGreat

namespace T
/-- The text by which a term is found. -/
def key (t : T) : ByteArray := if t.valid = true then strOf t.text else ⟨#[]⟩
def nil_ : T := .mk 0 ⟨#[]⟩ []
def kid (t : T) (i : Nat) : T := t.kids.getD i nil_
/-- A power with an exponent less. -/
def lessOf (t : T) (i : Nat) : T := .mk 7 ⟨#[]⟩ (t.kids.eraseIdx i)
end T

/-- A step: its term, how it was found, from which steps; and whether it was found by taking apart. -/
structure Stp where
  t : T
  how : Nat
  frm : List Nat
  part : Bool
namespace Wb
def find (W : List Stp) (t : T) : Option Nat := W.findIdx? fun s => decide (s.t.key = t.key)
def add (W : List Stp) (t : T) (how : Nat) (frm : List Nat) : List Stp × Nat :=
  match find W t with
  | some i => (W, i)
  | none => (W ++ [⟨t, how, frm, false⟩], W.length)
def partAt (W : List Stp) (i : Nat) : Bool := (W[i]?.map Stp.part).getD false
def mark (W : List Stp) (i : Nat) : List Stp := W.modify i fun s => { s with part := true }
def take (W : List Stp) (t : T) (how : Nat) (frm : List Nat) : List Stp × Bool :=
  if partAt (add W t how frm).1 (add W t how frm).2 = true then ((add W t how frm).1, false) else (mark (add W t how frm).1 (add W t how frm).2, true)
/-- Both kids, then the term. -/
def both (rec : List Stp → T → List Stp × Option Nat) (W : List Stp) (t : T) (how : Nat) : List Stp × Option Nat :=
  match (rec W (t.kid 0)).2 with
  | none => ((rec W (t.kid 0)).1, none)
  | some a =>
    match (rec (rec W (t.kid 0)).1 (t.kid 1)).2 with
    | none => ((rec (rec W (t.kid 0)).1 (t.kid 1)).1, none)
    | some b => ((add (rec (rec W (t.kid 0)).1 (t.kid 1)).1 t how [a, b]).1, some (add (rec (rec W (t.kid 0)).1 (t.kid 1)).1 t how [a, b]).2)
/-- A power: the exponents from the i-th on are tried. -/
def pow (rec : List Stp → T → List Stp × Option Nat) (t : T) : Nat → Nat → List Stp → List Stp × Option Nat
  | 0, _, W => (W, none)
  | f + 1, i, W =>
    match find W (t.kid i) with
    | none => pow rec t f (i + 1) W
    | some nm =>
      if t.kids.length = 1 then ((add W t 11 [nm]).1, some (add W t 11 [nm]).2)
      else match (rec W (t.lessOf i)).2 with
        | none => pow rec t f (i + 1) (rec W (t.lessOf i)).1
        | some p => ((add (rec W (t.lessOf i)).1 t 10 [p, nm]).1, some (add (rec W (t.lessOf i)).1 t 10 [p, nm]).2)
/-- A term is put together. -/
def build : Nat → List Stp → T → List Stp × Option Nat
  | 0, W, _ => (W, none)
  | n + 1, W, t =>
    match find W t with
    | some i => (W, some i)
    | none =>
      if t.kind = 4 then
        match (build n W (t.kid 0)).2 with
        | none => ((build n W (t.kid 0)).1, none)
        | some m => ((add (build n W (t.kid 0)).1 t 7 [m]).1, some (add (build n W (t.kid 0)).1 t 7 [m]).2)
      else if t.kind = 3 then both (build n) W t 6
      else if t.kind = 5 then both (build n) W t 8
      else if t.kind = 6 then both (build n) W t 9
      else if t.kind = 7 then pow (build n) t t.kids.length 0 W
      else (W, none)
def bld (W : List Stp) (t : T) : List Stp × Option Nat := build (t.bulk + 1) W t
def termAt (W : List Stp) (i : Nat) : T := (W[i]?.map Stp.t).getD T.nil_
/-- A step's term is taken apart. -/
def apart (W : List Stp) (i : Nat) : List Stp × Bool :=
  let t := termAt W i
  if t.kind = 3 then ((take (take W (t.kid 0) 2 [i]).1 (t.kid 1) 3 [i]).1, (take (take W (t.kid 0) 2 [i]).1 (t.kid 1) 3 [i]).2 || (take W (t.kid 0) 2 [i]).2)
  else if t.kind = 6 then take W (t.kid 1) 5 [i]
  else if t.kind = 5 then
    if (find W (t.kid 1)).any (fun m => partAt W m) = true then (W, false)
    else match (bld W (t.kid 0)).2 with
      | none => ((bld W (t.kid 0)).1, false)
      | some k => take (bld W (t.kid 0)).1 (t.kid 1) 4 [i, k]
  else (W, false)
/-- A round over the steps from the i-th on. -/
def rnd : Nat → Nat → Bool → List Stp → List Stp × Bool
  | 0, _, m, W => (W, m)
  | f + 1, i, m, W =>
    if i < W.length then
      if partAt W i = true then rnd f (i + 1) (m || (apart W i).2) (apart W i).1 else rnd f (i + 1) m W
    else (W, m)
def run (U : Nat) : Nat → List Stp → List Stp
  | 0, W => W
  | f + 1, W => if (rnd U 0 false W).2 = true then run U f (rnd U 0 false W).1 else (rnd U 0 false W).1
def start (ts : List T) : List Stp := ts.foldl (fun W t => (take W t 1 []).1) []
end Wb
end Go.Proofs.YtihbmgkbipeakaaGreat

namespace Go.Proofs.YtihbmgkbipeakaaGreat
open Go.RowKit

namespace T
mutual
/-- The names of a term's variables, in the order in which they occur. -/
def vars : T → List ByteArray
  | .mk k s ks => (if k = 2 then [s] else []) ++ varsAll ks
def varsAll : List T → List ByteArray
  | [] => []
  | t :: r => vars t ++ varsAll r
end
mutual
theorem vars_len : ∀ t : T, t.vars.length ≤ t.bulk
  | .mk k s ks => by
    have := varsAll_len ks
    simp only [vars, bulk, List.length_append]
    split <;> simp <;> omega
theorem varsAll_len : ∀ l : List T, (varsAll l).length ≤ bulkAll l
  | [] => by simp [varsAll, bulkAll]
  | t :: r => by have := vars_len t; have := varsAll_len r; simp only [varsAll, bulkAll, List.length_append]; omega
end
end T
/-- Blocks below B. -/
def under (B : Nat) : Nat → Bool := fun b => decide (b < B)
/-- A kid's cells, below B. -/
theorem TermIn.cells {B : Nat} {w : World} {A : Option Addr} {ks : List T} {U : Nat → Value × Value × Value} {i : Nat} (h : i < ks.length)
    (hA : ks.length = 0 ∨ ∃ b off, A = some ⟨b, off, none⟩ ∧ ∀ i, i < ks.length → (only w (under B)).cell? ⟨b, off + i * 3, none⟩ = some (U i).1 ∧ (only w (under B)).cell? ⟨b, off + i * 3 + 1, none⟩ = some (U i).2.1 ∧ (only w (under B)).cell? ⟨b, off + i * 3 + 2, none⟩ = some (U i).2.2)
    (hU : ∀ i (h : i < ks.length), TermAt (only w (under B)) (.agg #[(U i).1, (U i).2.1, (U i).2.2]) ks[i]) :
    ∃ b off A' cap', b < B ∧ A = some ⟨b, off, none⟩ ∧ w.cell? ⟨b, off + i * 3, none⟩ = some (.int .i64 ks[i].kind) ∧ w.cell? ⟨b, off + i * 3 + 1, none⟩ = some (.string ks[i].name) ∧
      w.cell? ⟨b, off + i * 3 + 2, none⟩ = some (.slice A' ks[i].kids.length cap') ∧ TermIn (under B) w (.agg #[.int .i64 ks[i].kind, .string ks[i].name, .slice A' ks[i].kids.length cap']) ks[i] := by
  obtain ⟨b, off, A', cap', e, c0, c1, c2, hu⟩ := TermAt.cells h hA hU
  have key : ∀ {q : Addr} {v : Value}, (only w (under B)).cell? q = some v → q.block < B ∧ w.cell? q = some v := fun {q v} hq => by
    rw [cell_only] at hq
    split at hq
    · rename_i hS; exact ⟨of_decide_eq_true hS, hq⟩
    · cases hq
  exact ⟨b, off, A', cap', (key c0).1, e, (key c0).2, (key c1).2, (key c2).2, hu⟩
theorem cell_below {B : Nat} {w w' : World} {b o : Nat} {v : Value} (h : Below B w w') (hb : b < B) (hc : w.cell? ⟨b, o, none⟩ = some v) : w'.cell? ⟨b, o, none⟩ = some v := (h.cell (p := ⟨b, o, none⟩) hb).trans hc
end Go.Proofs.YtihbmgkbipeakaaGreat
