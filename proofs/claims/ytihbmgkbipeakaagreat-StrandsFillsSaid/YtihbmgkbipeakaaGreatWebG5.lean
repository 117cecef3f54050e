/- Several texts in one: TermOrder. -/
import Derived.Test.YtihbmgkbipeakaaGreatWebG3
import Derived.Test.YtihbmgkbipeakaaGreatWebG4
import Derived.Deep.RegionLaw
import Derived.Deep.RegionHeld3
import Derived.Deep.DrawnRows
import Derived.BigQuiet
namespace Go.Proofs.YtihbmgkbipeakaaGreat
open Go.RowKit

attribute [local go_sem ↓] Go.wp_at_zero Go.wp_at_succ

namespace T
/-- The kids of a term of kind k, as order leaves them. -/
def ordL (k : Int) (l : List T) : List T := if k = 7 then isort l else l
theorem ordL_norm (k : Int) (s : ByteArray) (ks : List T) : (T.mk k s ks).norm = .mk k s (ordL k (ks.map norm)) := by
  simp only [norm, ordL, normAll_map]
end T
/-- Where the search for the place of x stands. -/
def InnerAt (k : Int) (l : List T) (x : T) (A Bq : List T) : Prop :=
  T.ordL k l = A.reverse ++ Bq.reverse ∧ (k = 7 → l.foldl (fun acc x => T.insR x acc) [] = Bq ++ A ∧ T.insR x (l.foldl (fun acc x => T.insR x acc) []) = Bq ++ T.insR x A) ∧ (k ≠ 7 → Bq = [])
theorem InnerAt.start (k : Int) (l : List T) (x : T) : InnerAt k l x (T.ordL k l).reverse [] :=
  ⟨by simp, fun h => by unfold T.ordL; rw [if_pos h]; simp [T.isort], fun _ => rfl⟩
theorem InnerAt.step {k : Int} {l : List T} {x y : T} {A Bq : List T} (h : InnerAt k l x (y :: A) Bq) (hk : k = 7) (hc : T.cmp x y < 0) : InnerAt k l x A (Bq ++ [y]) := by
  obtain ⟨h1, h2, h3⟩ := h
  obtain ⟨h4, h5⟩ := h2 hk
  refine ⟨by rw [h1]; simp, fun _ => ⟨by rw [h4]; simp, by rw [h5]; simp only [T.insR]; rw [if_pos hc]; simp⟩, fun h => absurd hk h⟩
theorem InnerAt.exit {k : Int} {l : List T} {x : T} {A Bq : List T} (h : InnerAt k l x A Bq) (hx : k = 7 → ∀ y A', A = y :: A' → ¬ T.cmp x y < 0) : T.ordL k (l ++ [x]) = A.reverse ++ x :: Bq.reverse := by
  obtain ⟨h1, h2, h3⟩ := h
  by_cases hk : k = 7
  · obtain ⟨h4, h5⟩ := h2 hk
    unfold T.ordL T.isort
    rw [if_pos hk, List.foldl_append]
    show (T.insR x _).reverse = _
    rw [h5]
    cases A with
    | nil => simp [T.insR]
    | cons y A' => simp only [T.insR]; rw [if_neg (hx hk y A' rfl)]; simp
  · have := h3 hk; subst this
    unfold T.ordL at h1 ⊢
    rw [if_neg hk] at h1 ⊢
    rw [h1]; simp
/-- What the loop of order has done. -/
def OrdAt (w : World) (k : Int) (s : ByteArray) (kids : Value) (L : List T) (wr : World) : Prop :=
  ∃ kv, Box wr w.heap.size (.int .i64 k) (.string s) kids ∧ Box wr (w.heap.size + 1) (.int .i64 0) (.string ⟨#[]⟩) (.slice none 0 0) ∧ Box wr (w.heap.size + 1 + 1) (.int .i64 k) (.string s) kv ∧
    TermsRow wr (w.heap.size + 3) kv L ∧ Below w.heap.size w wr ∧ w.heap.size + 3 ≤ wr.heap.size
theorem box_three (w : World) (a b c a' b' c' a'' b'' c'' : Value) : Box (((w.alloc (.cells #[a, b, c] 29)).alloc (.cells #[a', b', c'] 29)).alloc (.cells #[a'', b'', c''] 29)) w.heap.size a b c ∧
    Box (((w.alloc (.cells #[a, b, c] 29)).alloc (.cells #[a', b', c'] 29)).alloc (.cells #[a'', b'', c''] 29)) (w.heap.size + 1) a' b' c' ∧
    Box (((w.alloc (.cells #[a, b, c] 29)).alloc (.cells #[a', b', c'] 29)).alloc (.cells #[a'', b'', c''] 29)) (w.heap.size + 1 + 1) a'' b'' c'' ∧
    Below w.heap.size w (((w.alloc (.cells #[a, b, c] 29)).alloc (.cells #[a', b', c'] 29)).alloc (.cells #[a'', b'', c''] 29)) ∧
    (((w.alloc (.cells #[a, b, c] 29)).alloc (.cells #[a', b', c'] 29)).alloc (.cells #[a'', b'', c''] 29)).heap.size = w.heap.size + 3 := by
  obtain ⟨h1, h2, h3, h4⟩ := box_two w a b c a' b' c'
  have hb := below_alloc1 ((w.alloc (.cells #[a, b, c] 29)).alloc (.cells #[a', b', c'] 29)) (.cells #[a'', b'', c''] 29)
  have h5 := Box.new ((w.alloc (.cells #[a, b, c] 29)).alloc (.cells #[a', b', c'] 29)) a'' b'' c''
  rw [h4] at h5
  exact ⟨h1.later hb, h2.later hb, h5, h3.trans (hb.mono (by rw [h4]; omega)), by rw [size_alloc1, h4]⟩

theorem Src.boxed (w : World) (a b c : Value) : Src (w.alloc (.cells #[a, b, c] 29)) 3 (some ⟨w.heap.size, 0, none⟩) 1 [a, b, c] := by
  refine ⟨rfl, .inr ⟨_, 0, rfl, fun j u hu => ?_⟩⟩
  obtain ⟨h0, h1, h2⟩ := (Box.new w a b c).cells
  rw [Nat.zero_add]
  match j, hu with
  | 0, hu => exact h0.trans hu
  | 1, hu => exact h1.trans hu
  | 2, hu => exact h2.trans hu
theorem eight_later {w1 W W2 : World} {p0 p1 p2 p3 p4 p5 p6 p7 : Addr} {v0 v1 v2 v3 v4 v5 v6 v7 : Value} (h : W.cell? p0 = some v0 ∧ W.cell? p1 = some v1 ∧ W.cell? p2 = some v2 ∧ W.cell? p3 = some v3 ∧ W.cell? p4 = some v4 ∧ W.cell? p5 = some v5 ∧ W.cell? p6 = some v6 ∧ W.cell? p7 = some v7 ∧ Below w1.heap.size w1 W)
    (hb : Below W.heap.size W W2) : W2.cell? p0 = some v0 ∧ W2.cell? p1 = some v1 ∧ W2.cell? p2 = some v2 ∧ W2.cell? p3 = some v3 ∧ W2.cell? p4 = some v4 ∧ W2.cell? p5 = some v5 ∧ W2.cell? p6 = some v6 ∧ W2.cell? p7 = some v7 ∧ Below w1.heap.size w1 W2 := by
  obtain ⟨h0, h1, h2, h3, h4, h5, h6, h7, h8⟩ := h
  exact ⟨cell_later hb h0, cell_later hb h1, cell_later hb h2, cell_later hb h3, cell_later hb h4, cell_later hb h5, cell_later hb h6, cell_later hb h7, h8.trans (hb.mono h8.size)⟩
/-- What stands while a term is put into a row. -/
theorem splice_keep {wt we w7 w8 w9 w10 : World} {a5 a8 a10 : Option Nat} (hs : we.heap.size = wt.heap.size + 1) (hwe : ∀ b, b < wt.heap.size → we.heap[b]? = wt.heap[b]?) (hg7 : we.grownBy w7 (some wt.heap.size))
    (h8 : Below w7.heap.size w7 w8) (hg9 : w8.grownBy w9 a5) (hat9 : a8 = a5 ∨ a8 = some w8.heap.size) (hg10 : w9.grownBy w10 a8) (hat10 : a10 = a8 ∨ a10 = some w9.heap.size) :
    (∀ b, b < wt.heap.size → a5 ≠ some b → w10.heap[b]? = wt.heap[b]? ∧ a10 ≠ some b) ∧ wt.heap.size ≤ w10.heap.size := by
  have z7 := hg7.size; have z8 := h8.size; have z9 := hg9.size; have z10 := hg10.size
  refine ⟨fun b hb hne => ?_, by omega⟩
  have hne8 : a8 ≠ some b := fun e => by
    rcases hat9 with h | h
    · exact hne (by rw [← h]; exact e)
    · rw [h] at e; injection e with e; omega
  refine ⟨?_, fun e => ?_⟩
  · rw [hg10.block b (by omega) (fun e => hne8 e.symm), hg9.block b (by omega) (fun e => hne e.symm), h8.block b (by omega), hg7.block b (by omega) (fun e => by have e' : b = wt.heap.size := Option.some.inj e; omega), hwe b hb]
  · rcases hat10 with h | h
    · exact hne8 (by rw [← h]; exact e)
    · rw [h] at e; injection e with e; omega
theorem splice_end {w wt w10 : World} {k : Int} {s : ByteArray} {kids kv : Value} {base : Nat} {a5 : Option Nat} {A10 : Option Addr} {n10 c10 : Nat} {P Q : List T} {x : T} {xs : List Value} {u0 u1 u2 : Value} {p : Nat}
    (hbase : base = w.heap.size + 3) (bx : Box wt w.heap.size (.int .i64 k) (.string s) kids) (by' : Box wt (w.heap.size + 1) (.int .i64 0) (.string ⟨#[]⟩) (.slice none 0 0)) (bz : Box wt (w.heap.size + 1 + 1) (.int .i64 k) (.string s) kv)
    (hb : Below w.heap.size w wt) (hos : w10.os = wt.os) (htape : w10.tape = wt.tape) (hout : w10.output = wt.output) (ha5 : ∀ b, a5 = some b → base ≤ b)
    (hkeep : (∀ b, b < wt.heap.size → a5 ≠ some b → w10.heap[b]? = wt.heap[b]? ∧ A10.map (·.block) ≠ some b) ∧ wt.heap.size ≤ w10.heap.size)
    (hP : P.length = p) (hct : CT (but base a5) wt xs (P ++ Q)) (hx : TermIn (but base a5) wt (.agg #[u0, u1, u2]) x) (hn : n10 = (P ++ x :: Q).length)
    (hown : w10.ownsRow base 29 3 (.slice A10 n10 c10) n10 (xs.take (p * 3) ++ [u0, u1, u2] ++ xs.drop (p * 3))) :
    OrdAt w k s kids (P ++ x :: Q) (w10.setCell ⟨w.heap.size + 1 + 1, 2, none⟩ (.slice A10 n10 c10)) := by
  subst hbase; subst hn
  have hlt : ∀ b, b < w.heap.size + 3 → a5 ≠ some b := fun b hb e => by have := ha5 b e; omega
  have k0 := (hkeep.1 w.heap.size bx.lt (hlt _ (by omega))).1
  have k1 := (hkeep.1 (w.heap.size + 1) by'.lt (hlt _ (by omega))).1
  have k2 := (hkeep.1 (w.heap.size + 1 + 1) bz.lt (hlt _ (by omega))).1
  have z := bz.lt
  have hP2 : CT (but (w.heap.size + 3) (A10.map (·.block))) w10 (xs.take (p * 3) ++ [u0, u1, u2] ++ xs.drop (p * 3)) (P ++ x :: Q) := by
    have c1 := hct.take p; have c2 := hct.drop p
    rw [← hP, List.take_left] at c1
    rw [← hP, List.drop_left] at c2
    have c3 := (c1.append (CT.one hx)).append c2
    rw [hP] at c3
    rw [List.append_assoc P [x] Q] at c3
    refine c3.keep fun b hb hl => ?_
    obtain ⟨g1, g2⟩ := but_iff.1 hb
    obtain ⟨g3, g4⟩ := hkeep.1 b hl g2
    exact ⟨but_iff.2 ⟨g1, g4⟩, g3⟩
  have hv : (Value.slice A10 (P ++ x :: Q).length c10).ownBlock = A10.map (·.block) := by cases A10 <;> rfl
  refine ⟨_, ((show Box w10 _ _ _ _ from k0.trans bx)).setOther (by simp; omega) _, ((show Box w10 _ _ _ _ from k1.trans by')).setOther (by simp) _, (show Box w10 _ _ _ _ from k2.trans bz).set2 _, ?_, ?_, ?_⟩
  · exact (TermsRow.of hown (by rw [hv]; exact hP2)).keep fun b hb _ => Below.heap_setCell _ _ _ _ (by show b ≠ w.heap.size + 1 + 1; omega)
  · refine Below.setCell ⟨hos.trans hb.os, htape.trans hb.tape, hout.trans hb.output, Nat.le_trans hb.size hkeep.2, fun b hlb => ?_⟩ (by show w.heap.size ≤ w.heap.size + 1 + 1; omega) _
    rw [(hkeep.1 b (Nat.lt_of_lt_of_le hlb hb.size) (hlt _ (by omega))).1]; exact hb.block b hlb
  · have := hkeep.2; simp [World.setCell]; omega

set_option maxRecDepth 100000 in
set_option maxHeartbeats 8000000 in
theorem rord : ∀ (N : Nat) (t : T) (v : Value) (w : World), t.bulk < N → TermAt w v t → t.bulk ≤ 1048576 →
    Calls Tryz.prog 95 #[v] w (RetT t.norm w) := by
  intro N
  induction N with
  | zero => intro t v w h; omega
  | succ N ih =>
    intro t v w hN ht hbk
    cases ht with
    | mk k s A cap ks U h1 h2 h3 h4 hA hU =>
      simp only [T.bulk] at hN hbk
      have hkn : ks.length ≤ 262144 := by have := T.len_le ks; omega
      obtain ⟨i0, hi0, hz0, hz1, hz2⟩ := info_parts Tryz.infoT
      go_enter Tryz.func95, Tryz.ntmps95
      go_wp2_with fail
      obtain ⟨bx, by', bz, hb1, hsz⟩ := box_three w (.int .i64 k) (.string s) (.slice A ks.length cap) (.int .i64 0) (.string ⟨#[]⟩) (.slice none 0 0) (.int .i64 k) (.string s) (.slice none 0 0)
      generalize ((w.alloc (.cells #[.int .i64 k, .string s, .slice A ks.length cap] 29)).alloc (.cells #[.int .i64 0, .string ⟨#[]⟩, .slice none 0 0] 29)).alloc (.cells #[.int .i64 k, .string s, .slice none 0 0] 29) = w1 at bx by' bz hb1 hsz ⊢
      have HST := Lib.hid (show OrdAt w k s (.slice A ks.length cap) [] w1 from ⟨_, bx, by', bz, TermsRow.nil _ _, hb1, by omega⟩)
      have IH := Lib.hid ih
      have hA2 := Lib.hid hA; have hU2 := Lib.hid hU
      obtain ⟨KS, hKS⟩ : ∃ KS, ks.map T.norm = KS := ⟨_, rfl⟩
      have hKSl : KS.length = ks.length := by rw [← hKS, List.length_map]
      have HKS := Lib.hid hKS; have HKL := Lib.hid hKSl
      have HKB := Lib.hid (show T.bulkAll KS ≤ 1048576 by rw [← hKS, ← T.normAll_map, T.bulk_normAll]; omega)
      clear bx by' bz hb1 hsz ih hA hU hKS hKSl
      go_loopw [4] (fun i wr => ∃ j : Nat, j ≤ ks.length ∧ i = .int .i64 j ∧ OrdAt w k s (.slice A ks.length cap) (T.ordL k (KS.take j)) wr) (fun i _ => ks.length - (intOf i).toNat)
      case atStart => exact ⟨0, Nat.zero_le _, rfl, by have := HST.out; simpa [T.ordL, T.isort] using this⟩
      case round =>
        obtain ⟨j, hj, rfl, hat⟩ := hrel
        obtain ⟨wo, rfl⟩ : ∃ wo : World, wo = wr := ⟨_, rfl⟩
        by_cases hlt : j < ks.length
        · obtain ⟨kv, bx, by', bz, hrow, hbw, hsz⟩ := hat
          obtain ⟨b, off, B1, C1, rfl, d0, d1, d2, hu⟩ := TermAt.cells hlt hA2.out hU2.out
          have e0 := cell_later hbw d0; have e1 := cell_later hbw d1; have e2 := cell_later hbw d2
          have hi : (j : Int) < (ks.length : Int) := by omega
          obtain ⟨x0, x1, x2⟩ := bx.cells
          have HU := Lib.hid (hu.later hbw); have HLT := Lib.hid hlt
          have HB2 := Lib.hid (show ks[j].bulk < N ∧ ks[j].bulk ≤ 1048576 by have := T.bulk_at ks j hlt; omega)
          have HBX := Lib.hid bx; have HBY := Lib.hid by'; have HBZ := Lib.hid bz; have HROW := Lib.hid hrow; have HBW := Lib.hid hbw; have HSZ := Lib.hid hsz
          clear d0 d1 d2 hu hj bx by' bz hrow hbw hsz
          go_wp2_with fail
          refine (IH.out _ _ _ HB2.out.1 HU.out HB2.out.2).mono ?_; rintro e w2 ⟨A3, C3, rfl, hti, hb3⟩
          have HTI := Lib.hid hti; have HB3 := Lib.hid hb3
          go_upto_region 6 with fail
          have hq := below_alloc1 w2 (.cells #[.int .i64 ks[j].norm.kind, .string ks[j].norm.name, .slice A3 ks[j].norm.kids.length C3] 29)
          have qx := Box.new w2 (.int .i64 ks[j].norm.kind) (.string ks[j].norm.name) (.slice A3 ks[j].norm.kids.length C3)
          have hqs := size_alloc1 w2 (.cells #[.int .i64 ks[j].norm.kind, .string ks[j].norm.name, .slice A3 ks[j].norm.kids.length C3] 29)
          generalize w2.alloc (.cells #[.int .i64 ks[j].norm.kind, .string ks[j].norm.name, .slice A3 ks[j].norm.kids.length C3] 29) = wq at hq qx hqs ⊢
          obtain ⟨x, hx, hbx, hdr, htk0⟩ : ∃ x, ks[j].norm = x ∧ x.bulk ≤ 1048576 ∧ KS.drop j = x :: KS.drop (j + 1) ∧ KS.take (j + 1) = KS.take j ++ [x] := by
            have hj' : j < KS.length := by rw [HKL.out]; exact hlt
            have e : KS[j] = ks[j].norm := by have h := HKS.out; subst h; exact List.getElem_map ..
            exact ⟨_, rfl, by rw [T.bulk_norm]; exact HB2.out.2, by rw [← e]; exact List.drop_eq_getElem_cons hj', by rw [← e]; exact List.take_succ_eq_append_getElem hj'⟩
          rw [hx] at hti qx ⊢
          have hbq : Below wo.heap.size wo wq := hb3.trans (hq.mono hb3.size)
          have HBQ := Lib.hid hbq; have HQX := Lib.hid qx
          have HTI := Lib.hid (hti.keep (w' := wq) (S' := from_ wo.heap.size) fun b hb hl => ⟨hb, hq.block b hl⟩)
          obtain ⟨A5, C5, hkv, hkl1, hkl2⟩ := HROW.out.shape
          have HKV := Lib.hid hkv
          have HBZ3 := Lib.hid (HBZ.out.later hbq)
          obtain ⟨z0, z1, z2⟩ := HBZ3.out.cells
          have HC1 := Lib.hid hkl1; have HC2 := Lib.hid hkl2
          rw [hkv] at z2
          have hlL : (T.ordL k (KS.take j)).length = j := by unfold T.ordL; split <;> (try rw [T.length_isort]) <;> (rw [List.length_take, HKL.out]; omega)
          rw [hlL] at z2
          clear hti hb3 x0 x1 x2 e0 e1 e2 hkv hkl1 hkl2 hq hbq qx hqs hx hi
          have HX0 := Lib.hid (HBX.out.later HBQ.out)
          have HBKX := Lib.hid hbx
          have HLL := Lib.hid hlL
          clear hbx hlL z0 z1 hdr
          go_wp2_with fail
          go_loopw [6] (fun i wr => ∃ A Bq : List T, i = .int .i64 A.length ∧ InnerAt k (KS.take j) x A Bq ∧ Below wq.heap.size wq wr) (fun i _ => (intOf i).toNat)
          case atStart => exact ⟨_, [], by rw [List.length_reverse, HLL.out], InnerAt.start _ _ _, Below.refl _ _⟩
          case round =>
            obtain ⟨AA, Bq, rfl, hin, hbl⟩ := hrel
            have HIN := Lib.hid hin; have HBL := Lib.hid hbl
            obtain ⟨x0, x1, x2⟩ := (HX0.out.later hbl).cells
            obtain ⟨z0, z1, z2⟩ := (HBZ3.out.later hbl).cells
            obtain ⟨t0, t1, t2⟩ := (HQX.out.later hbl).cells
            rw [HKV.out, HLL.out] at z2
            obtain ⟨p, hp⟩ : ∃ p, AA.length = p := ⟨_, rfl⟩
            have hpj : p ≤ j := by have := congrArg List.length HIN.out.1; rw [HLL.out] at this; simp at this; omega
            have HP := Lib.hid hp
            rw [hp]
            clear hp hin
            have h3 : k ≠ 7 ∨ (k = 7 ∧ AA = []) ∨ (k = 7 ∧ ∃ y A', AA = y :: A') := by
              by_cases k7 : k = 7
              · right
                cases AA with
                | nil => left; exact ⟨k7, rfl⟩
                | cons y A' => right; exact ⟨k7, y, A', rfl⟩
              · left; exact k7
            rcases h3 with k7 | ⟨k7, hAA⟩ | ⟨k7, y, A', hAA⟩
            · have HEX := Lib.hid (HIN.out.exit (fun hk => absurd hk k7))
              have k7' : (k == 7) = false := by rw [beq_eq_false_iff_ne]; exact k7
              clear k7
              go_upto_region 7 with fail
              go_quiet (fail)
              go_upto_region 9 with fail
              have hbt := below_drewN HBL.out nq
              generalize wr.drewN nq = wt at hbt ⊢
              have HBT := Lib.hid hbt
              have hbwt : Below wo.heap.size wo wt := HBQ.out.trans (hbt.mono HBQ.out.size)
              have hrowt := HROW.out.later hbwt
              obtain ⟨xs, hown, hct⟩ := hrowt.cells
              rw [HKV.out, HLL.out] at hown hct
              have hob : ∀ n c, (Value.slice A5 n c).ownBlock = A5.map (·.block) := fun n c => by cases A5 <;> rfl
              have hlow : ∀ b, A5.map (·.block) = some b → w.heap.size + 3 ≤ b ∧ b < wo.heap.size := fun b e => HROW.out.block b (by rw [HKV.out, hob]; exact e)
              obtain ⟨z0, z1, z2⟩ := (HBZ3.out.later hbt).cells
              rw [HKV.out, HLL.out] at z2
              have z2' := cell_later (below_alloc1 wt (.cells #[] 29)) z2
              have hownE := World.ownsRow_made (size := 3) (e := 29) wt #[] 0 (base := wt.heap.size) (Nat.le_refl _) (Nat.zero_le _) rfl
              have hcj : j ≤ C5 := by have := HC1.out; rw [HLL.out] at this; exact this
              have hjb : j ≤ 262144 := by have := HLT.out; omega
              have hsrc := ((Src.of_own hown).later (below_alloc1 wt (.cells #[] 29))).cut hpj hcj
              have c4 : (p : Int) ≤ (C5 : Int) := by omega
              have c1 : (p : Int) ≤ (j : Int) := by omega
              have c2 : (j : Int) ≤ (C5 : Int) := by omega
              have c3 : (0 : Int) ≤ (p : Int) := by omega
              have HOWN := Lib.hid hown; have HCT := Lib.hid hct; have HOWNE := Lib.hid hownE; have HOB := Lib.hid hob; have HLOW := Lib.hid hlow; have HBWT := Lib.hid hbwt
              have HONE := Lib.hid (fun u (hu : u ∈ xs.drop (p * 3)) => hct.one' u (List.mem_of_mem_drop hu))
              have HJB := Lib.hid hjb; have HPJ := Lib.hid hpj; have HTK0 := Lib.hid htk0; have HCJ := Lib.hid hcj
              clear htk0 hown hct hownE hob hlow hrowt hbt hbwt x0 x1 x2 t0 t1 t2 hjb hpj hcj
              by_cases hcp : p = C5
              · subst hcp
                rw [if_pos rfl] at hsrc
                have HSRC := Lib.hid hsrc
                clear hsrc
                go_wp2_with (at_builtin; refine wpList_append_src _ rfl _ _ 27 rfl wt.heap.size 29 i0 _ 3 48 Tryz.underlying27 hi0 hz0 hz1 hz2 rfl (by omega) _ 0 [] rfl HOWNE.out _ (j - p) _ _ rfl HSRC.out HONE.out (by have := HJB.out; unfold maxLen; omega) (by have := HJB.out; omega) (by rw [size_alloc1]; omega) ?_; intro A7 c7 w7 hown7 hg7 hat7)
                simp only [Nat.zero_add, List.nil_append] at hown7
                have hwe : ∀ b, b < wt.heap.size → (wt.alloc (.cells #[] 29)).heap[b]? = wt.heap[b]? := fun b hb => Below.heap_alloc _ _ b hb
                have hk7 : ∀ b, b < wt.heap.size → w7.heap[b]? = wt.heap[b]? := fun b hb => by rw [hg7.block b (by rw [size_alloc1]; omega) (fun e => by have e' : b = wt.heap.size := Option.some.inj e; omega), hwe b hb]
                have hz7 : wt.heap.size + 1 ≤ w7.heap.size := by have := hg7.size; rw [size_alloc1] at this; exact this
                have hzt := HBWT.out.size
                have ht7 : ∀ {g : Nat} {a b c : Value}, Box wt g a b c → Box w7 g a b c := fun h => (hk7 _ h.lt).trans h
                have hbz := HBZ3.out.later HBT.out
                rw [HKV.out, HLL.out] at hbz
                have hbz7 := ht7 hbz
                have hqx7 := ht7 (HQX.out.later HBT.out)
                obtain ⟨y0, y1, y2⟩ := hbz7.cells
                obtain ⟨t0, t1, t2⟩ := hqx7.cells
                have hA7 : ∀ b, A7.map (·.block) = some b → wt.heap.size ≤ b := fun b e => by
                  rcases hat7 with h | h
                  · rw [h] at e; have e' : wt.heap.size = b := Option.some.inj e; omega
                  · rw [h, size_alloc1] at e; have e' : wt.heap.size + 1 = b := Option.some.inj e; omega
                have hown75 := own_take' (own_later HOWN.out (w' := w7) ⟨hg7.os, hg7.tape, hg7.output, by omega, hk7⟩) HPJ.out
                have HSRC7 := Lib.hid (Src.of_own hown7)
                have HBZ7 := Lib.hid hbz7; have HA7 := Lib.hid hA7; have HZ7 := Lib.hid hz7; have HZT := Lib.hid hzt; have HG7 := Lib.hid hg7
                have HX3 := Lib.hid (show ∀ u ∈ [Value.int .i64 x.kind, .string x.name, .slice A3 x.kids.length C3], u.oneCell' = true from HTI.out.one)
                have d1 := cell_later (below_alloc1 w7 (.cells #[.int .i64 x.kind, .string x.name, .slice A3 x.kids.length C3] 29)) y2
                have HB8 := Lib.hid (show Below w7.heap.size w7 (w7.alloc (.cells #[.int .i64 x.kind, .string x.name, .slice A3 x.kids.length C3] 29)).drew from (below_alloc1 w7 _).drew)
                have HOWN8 := Lib.hid (own_later hown75 HB8.out)
                have HSB := Lib.hid (show Src (w7.alloc (.cells #[.int .i64 x.kind, .string x.name, .slice A3 x.kids.length C3] 29)).drew 3 (some ⟨w7.heap.size, 0, none⟩) 1 [.int .i64 x.kind, .string x.name, .slice A3 x.kids.length C3] from Src.boxed w7 _ _ _)
                have HOB8 := Lib.hid (show ∀ (A : Option Addr) (n c : Nat), (Value.slice A n c).ownBlock = A.map (·.block) from fun A n c => by cases A <;> rfl)
                have HN5 := Lib.hid (show A5.map (·.block) ≠ some (w.heap.size + 1 + 1) from fun e => by have := (HLOW.out _ e).1; omega)
                have HM1 := Lib.hid (show p + 1 ≤ maxLen by have := HJB.out; have := HPJ.out; unfold maxLen; omega)
                have HM2 := Lib.hid (show (p + 1) * 48 ≤ 140737488355328 by have := HJB.out; have := HPJ.out; omega)
                have HM3 := Lib.hid (show w.heap.size + 3 ≤ ((w7.alloc (.cells #[.int .i64 x.kind, .string x.name, .slice A3 x.kids.length C3] 29)).drew).heap.size by have := HB8.out.size; have := HZ7.out; have := HZT.out; have := HSZ.out; omega)
                have HN8 := Lib.hid (show ∀ (A8 : Option Addr) (n c : Nat), (A8.map (·.block) = (Value.slice A5 n c).ownBlock ∨ A8.map (·.block) = some ((w7.alloc (.cells #[.int .i64 x.kind, .string x.name, .slice A3 x.kids.length C3] 29)).drew).heap.size) → A8.map (·.block) ≠ some (w.heap.size + 1 + 1) from fun A8 n c h e => by
                  rcases h with h | h
                  · rw [h, HOB.out] at e; exact HN5.out e
                  · rw [h] at e; have e' := Option.some.inj e; have := HM3.out; omega)
                have HM4 := Lib.hid (show p + 1 + (j - p) ≤ maxLen by have := HJB.out; have := HPJ.out; unfold maxLen; omega)
                have HM5 := Lib.hid (show (p + 1 + (j - p)) * 48 ≤ 140737488355328 by have := HJB.out; have := HPJ.out; omega)
                have HNE := Lib.hid (show A7.map (·.block) ≠ A5.map (·.block) ∨ A5.map (·.block) = none by
                  rcases h : A5.map (·.block) with _ | b
                  · exact .inr h
                  · left; intro e; have := (HLOW.out b h).2; have := HA7.out b (e.trans h); have := HZT.out; omega)
                have hjl : p + 1 + (j - p) = (AA.reverse ++ x :: Bq.reverse).length := by
                  have h1 := congrArg List.length HIN.out.1; rw [HLL.out] at h1
                  have := HP.out; have := HPJ.out
                  simp at h1 ⊢; omega
                have HFIN := Lib.hid (show ∀ (A8 A10 : Option Addr) (c c8 c10 : Nat) (w9 w10 : World), (w7.alloc (.cells #[.int .i64 x.kind, .string x.name, .slice A3 x.kids.length C3] 29)).drew.grownBy w9 (Value.slice A5 p c).ownBlock → (A8.map (·.block) = (Value.slice A5 p c).ownBlock ∨ A8.map (·.block) = some ((w7.alloc (.cells #[.int .i64 x.kind, .string x.name, .slice A3 x.kids.length C3] 29)).drew).heap.size) →
                    w9.grownBy w10 (Value.slice A8 (p + 1) c8).ownBlock → (A10.map (·.block) = (Value.slice A8 (p + 1) c8).ownBlock ∨ A10.map (·.block) = some w9.heap.size) →
                    w10.ownsRow (w.heap.size + 3) 29 3 (.slice A10 (p + 1 + (j - p)) c10) (p + 1 + (j - p)) (xs.take (p * 3) ++ [.int .i64 x.kind, .string x.name, .slice A3 x.kids.length C3] ++ xs.drop (p * 3)) →
                    OrdAt w k s (.slice (some ⟨b, off, none⟩) ks.length cap) (T.ordL k (KS.take (j + 1))) (w10.setCell ⟨w.heap.size + 1 + 1, 2, none⟩ (.slice A10 (p + 1 + (j - p)) c10)) from fun A8 A10 c c8 c10 w9 w10 g9 a9 g10 a10 ho => by
                  rw [HOB8.out] at g9 a9 g10 a10
                  rw [HTK0.out, HEX.out]
                  exact splice_end (a5 := A5.map (·.block)) (kv := .slice A5 j _) rfl (HX0.out.later HBT.out) ((HBY.out.later HBQ.out).later HBT.out) hbz (HBW.out.trans (HBWT.out.mono HBW.out.size))
                    (g10.os.trans (g9.os.trans (HB8.out.os.trans HG7.out.os))) (g10.tape.trans (g9.tape.trans (HB8.out.tape.trans HG7.out.tape))) (g10.output.trans (g9.output.trans (HB8.out.output.trans HG7.out.output)))
                    (fun b hb => (HLOW.out b hb).1) (splice_keep (by rw [size_alloc1]) hwe HG7.out HB8.out g9 a9 g10 a10) (by rw [List.length_reverse]; exact HP.out)
                    (by have h := HCT.out; rw [HOB8.out, HIN.out.1] at h; exact h)
                    (HTI.out.keep fun b hb hl => ⟨but_iff.2 ⟨by have := of_decide_eq_true hb; have := HSZ.out; omega, fun e => by have := of_decide_eq_true hb; have := (HLOW.out b e).2; omega⟩, HBT.out.block b hl⟩) hjl ho)
                clear hjl hown7 hwe hk7 hz7 hzt ht7 hbz hbz7 hqx7 hA7 hown75 hg7 hat7 z0 z1 z2 z2' y0 y1
                go_region_law (first | (refine step_append_src _ (by rfl) (.tmp 58) (.tmp 60) _ (by rfl) (w.heap.size + 3) 29 i0 _ 3 48 Tryz.underlying27 hi0 hz0 hz1 hz2 rfl (by omega) _ p _ (by rfl) HOWN8.out _ 1 1 _ (by rfl) HSB.out HX3.out HM1.out HM2.out HM3.out ?_; intro A8 c8 w9 hown9 hg9 hat9) | (refine step_append_src _ (by rfl) (.tmp 61) (.tmp 62) _ (by rfl) (w.heap.size + 3) 29 i0 _ 3 48 Tryz.underlying27 hi0 hz0 hz1 hz2 rfl (by omega) _ (p + 1) _ (by rfl) hown9 _ (j - p) c7 _ (by rfl) ((HSRC7.out.later HB8.out).grown hg9 (by rw [HOB.out]; exact HNE.out)) HONE.out HM4.out HM5.out (Nat.le_trans HM3.out hg9.size) ?_; intro A10 c10 w10 hown10 hg10 hat10; have hb10 := ((HBZ7.out.later HB8.out).grown hg9 (by rw [HOB.out]; exact HN5.out)).grown hg10 (by rw [HOB8.out A8]; exact HN8.out A8 _ _ hat9); have c10' := hb10.cells.2.2; have f10 := hb10.free.2.2))
                all_goals
                  have hfin := HFIN.out A8 A10 _ _ _ w9 w10 hg9 hat9 hg10 hat10 hown10
                  have HF := Lib.hid hfin
                  clear hfin hg9 hat9 hg10 hat10 hown10 hown9 hb10 c10' f10 y2 t0 t1 t2 d1
                  go_wp2_with fail
                  go_roundw
                  case rel => exact ⟨j + 1, HLT.out, by go_num, HF.out⟩
                  case measure => have := HLT.out; simp [intOf]; omega
              · replace hcp : ¬ C5 = p := fun e => hcp e.symm
                rw [if_neg hcp] at hsrc
                have HSRC := Lib.hid hsrc
                clear hsrc
                go_wp2_with (at_builtin; refine wpList_append_src _ rfl _ _ 27 rfl wt.heap.size 29 i0 _ 3 48 Tryz.underlying27 hi0 hz0 hz1 hz2 rfl (by omega) _ 0 [] rfl HOWNE.out _ (j - p) _ _ rfl HSRC.out HONE.out (by have := HJB.out; unfold maxLen; omega) (by have := HJB.out; omega) (by rw [size_alloc1]; omega) ?_; intro A7 c7 w7 hown7 hg7 hat7)
                simp only [Nat.zero_add, List.nil_append] at hown7
                have hwe : ∀ b, b < wt.heap.size → (wt.alloc (.cells #[] 29)).heap[b]? = wt.heap[b]? := fun b hb => Below.heap_alloc _ _ b hb
                have hk7 : ∀ b, b < wt.heap.size → w7.heap[b]? = wt.heap[b]? := fun b hb => by rw [hg7.block b (by rw [size_alloc1]; omega) (fun e => by have e' : b = wt.heap.size := Option.some.inj e; omega), hwe b hb]
                have hz7 : wt.heap.size + 1 ≤ w7.heap.size := by have := hg7.size; rw [size_alloc1] at this; exact this
                have hzt := HBWT.out.size
                have ht7 : ∀ {g : Nat} {a b c : Value}, Box wt g a b c → Box w7 g a b c := fun h => (hk7 _ h.lt).trans h
                have hbz := HBZ3.out.later HBT.out
                rw [HKV.out, HLL.out] at hbz
                have hbz7 := ht7 hbz
                have hqx7 := ht7 (HQX.out.later HBT.out)
                obtain ⟨y0, y1, y2⟩ := hbz7.cells
                obtain ⟨t0, t1, t2⟩ := hqx7.cells
                have hA7 : ∀ b, A7.map (·.block) = some b → wt.heap.size ≤ b := fun b e => by
                  rcases hat7 with h | h
                  · rw [h] at e; have e' : wt.heap.size = b := Option.some.inj e; omega
                  · rw [h, size_alloc1] at e; have e' : wt.heap.size + 1 = b := Option.some.inj e; omega
                have hown75 := own_take' (own_later HOWN.out (w' := w7) ⟨hg7.os, hg7.tape, hg7.output, by omega, hk7⟩) HPJ.out
                have HSRC7 := Lib.hid (Src.of_own hown7)
                have HBZ7 := Lib.hid hbz7; have HA7 := Lib.hid hA7; have HZ7 := Lib.hid hz7; have HZT := Lib.hid hzt; have HG7 := Lib.hid hg7
                have HX3 := Lib.hid (show ∀ u ∈ [Value.int .i64 x.kind, .string x.name, .slice A3 x.kids.length C3], u.oneCell' = true from HTI.out.one)
                have d1 := cell_later (below_alloc1 w7 (.cells #[.int .i64 x.kind, .string x.name, .slice A3 x.kids.length C3] 29)) y2
                have HB8 := Lib.hid (show Below w7.heap.size w7 (w7.alloc (.cells #[.int .i64 x.kind, .string x.name, .slice A3 x.kids.length C3] 29)).drew from (below_alloc1 w7 _).drew)
                have HOWN8 := Lib.hid (own_later hown75 HB8.out)
                have HSB := Lib.hid (show Src (w7.alloc (.cells #[.int .i64 x.kind, .string x.name, .slice A3 x.kids.length C3] 29)).drew 3 (some ⟨w7.heap.size, 0, none⟩) 1 [.int .i64 x.kind, .string x.name, .slice A3 x.kids.length C3] from Src.boxed w7 _ _ _)
                have HOB8 := Lib.hid (show ∀ (A : Option Addr) (n c : Nat), (Value.slice A n c).ownBlock = A.map (·.block) from fun A n c => by cases A <;> rfl)
                have HN5 := Lib.hid (show A5.map (·.block) ≠ some (w.heap.size + 1 + 1) from fun e => by have := (HLOW.out _ e).1; omega)
                have HM1 := Lib.hid (show p + 1 ≤ maxLen by have := HJB.out; have := HPJ.out; unfold maxLen; omega)
                have HM2 := Lib.hid (show (p + 1) * 48 ≤ 140737488355328 by have := HJB.out; have := HPJ.out; omega)
                have HM3 := Lib.hid (show w.heap.size + 3 ≤ ((w7.alloc (.cells #[.int .i64 x.kind, .string x.name, .slice A3 x.kids.length C3] 29)).drew).heap.size by have := HB8.out.size; have := HZ7.out; have := HZT.out; have := HSZ.out; omega)
                have HN8 := Lib.hid (show ∀ (A8 : Option Addr) (n c : Nat), (A8.map (·.block) = (Value.slice A5 n c).ownBlock ∨ A8.map (·.block) = some ((w7.alloc (.cells #[.int .i64 x.kind, .string x.name, .slice A3 x.kids.length C3] 29)).drew).heap.size) → A8.map (·.block) ≠ some (w.heap.size + 1 + 1) from fun A8 n c h e => by
                  rcases h with h | h
                  · rw [h, HOB.out] at e; exact HN5.out e
                  · rw [h] at e; have e' := Option.some.inj e; have := HM3.out; omega)
                have HM4 := Lib.hid (show p + 1 + (j - p) ≤ maxLen by have := HJB.out; have := HPJ.out; unfold maxLen; omega)
                have HM5 := Lib.hid (show (p + 1 + (j - p)) * 48 ≤ 140737488355328 by have := HJB.out; have := HPJ.out; omega)
                have HNE := Lib.hid (show A7.map (·.block) ≠ A5.map (·.block) ∨ A5.map (·.block) = none by
                  rcases h : A5.map (·.block) with _ | b
                  · exact .inr h
                  · left; intro e; have := (HLOW.out b h).2; have := HA7.out b (e.trans h); have := HZT.out; omega)
                have hjl : p + 1 + (j - p) = (AA.reverse ++ x :: Bq.reverse).length := by
                  have h1 := congrArg List.length HIN.out.1; rw [HLL.out] at h1
                  have := HP.out; have := HPJ.out
                  simp at h1 ⊢; omega
                have HFIN := Lib.hid (show ∀ (A8 A10 : Option Addr) (c c8 c10 : Nat) (w9 w10 : World), (w7.alloc (.cells #[.int .i64 x.kind, .string x.name, .slice A3 x.kids.length C3] 29)).drew.grownBy w9 (Value.slice A5 p c).ownBlock → (A8.map (·.block) = (Value.slice A5 p c).ownBlock ∨ A8.map (·.block) = some ((w7.alloc (.cells #[.int .i64 x.kind, .string x.name, .slice A3 x.kids.length C3] 29)).drew).heap.size) →
                    w9.grownBy w10 (Value.slice A8 (p + 1) c8).ownBlock → (A10.map (·.block) = (Value.slice A8 (p + 1) c8).ownBlock ∨ A10.map (·.block) = some w9.heap.size) →
                    w10.ownsRow (w.heap.size + 3) 29 3 (.slice A10 (p + 1 + (j - p)) c10) (p + 1 + (j - p)) (xs.take (p * 3) ++ [.int .i64 x.kind, .string x.name, .slice A3 x.kids.length C3] ++ xs.drop (p * 3)) →
                    OrdAt w k s (.slice (some ⟨b, off, none⟩) ks.length cap) (T.ordL k (KS.take (j + 1))) (w10.setCell ⟨w.heap.size + 1 + 1, 2, none⟩ (.slice A10 (p + 1 + (j - p)) c10)) from fun A8 A10 c c8 c10 w9 w10 g9 a9 g10 a10 ho => by
                  rw [HOB8.out] at g9 a9 g10 a10
                  rw [HTK0.out, HEX.out]
                  exact splice_end (a5 := A5.map (·.block)) (kv := .slice A5 j _) rfl (HX0.out.later HBT.out) ((HBY.out.later HBQ.out).later HBT.out) hbz (HBW.out.trans (HBWT.out.mono HBW.out.size))
                    (g10.os.trans (g9.os.trans (HB8.out.os.trans HG7.out.os))) (g10.tape.trans (g9.tape.trans (HB8.out.tape.trans HG7.out.tape))) (g10.output.trans (g9.output.trans (HB8.out.output.trans HG7.out.output)))
                    (fun b hb => (HLOW.out b hb).1) (splice_keep (by rw [size_alloc1]) hwe HG7.out HB8.out g9 a9 g10 a10) (by rw [List.length_reverse]; exact HP.out)
                    (by have h := HCT.out; rw [HOB8.out, HIN.out.1] at h; exact h)
                    (HTI.out.keep fun b hb hl => ⟨but_iff.2 ⟨by have := of_decide_eq_true hb; have := HSZ.out; omega, fun e => by have := of_decide_eq_true hb; have := (HLOW.out b e).2; omega⟩, HBT.out.block b hl⟩) hjl ho)
                clear hjl hown7 hwe hk7 hz7 hzt ht7 hbz hbz7 hqx7 hA7 hown75 hg7 hat7 z0 z1 z2 z2' y0 y1
                go_region_law (first | (refine step_append_src _ (by rfl) (.tmp 58) (.tmp 60) _ (by rfl) (w.heap.size + 3) 29 i0 _ 3 48 Tryz.underlying27 hi0 hz0 hz1 hz2 rfl (by omega) _ p _ (by rfl) HOWN8.out _ 1 1 _ (by rfl) HSB.out HX3.out HM1.out HM2.out HM3.out ?_; intro A8 c8 w9 hown9 hg9 hat9) | (refine step_append_src _ (by rfl) (.tmp 61) (.tmp 62) _ (by rfl) (w.heap.size + 3) 29 i0 _ 3 48 Tryz.underlying27 hi0 hz0 hz1 hz2 rfl (by omega) _ (p + 1) _ (by rfl) hown9 _ (j - p) c7 _ (by rfl) ((HSRC7.out.later HB8.out).grown hg9 (by rw [HOB.out]; exact HNE.out)) HONE.out HM4.out HM5.out (Nat.le_trans HM3.out hg9.size) ?_; intro A10 c10 w10 hown10 hg10 hat10; have hb10 := ((HBZ7.out.later HB8.out).grown hg9 (by rw [HOB.out]; exact HN5.out)).grown hg10 (by rw [HOB8.out A8]; exact HN8.out A8 _ _ hat9); have c10' := hb10.cells.2.2; have f10 := hb10.free.2.2))
                all_goals
                  have hfin := HFIN.out A8 A10 _ _ _ w9 w10 hg9 hat9 hg10 hat10 hown10
                  have HF := Lib.hid hfin
                  clear hfin hg9 hat9 hg10 hat10 hown10 hown9 hb10 c10' f10 y2 t0 t1 t2 d1
                  go_wp2_with fail
                  go_roundw
                  case rel => exact ⟨j + 1, HLT.out, by go_num, HF.out⟩
                  case measure => have := HLT.out; simp [intOf]; omega
            · have HEX := Lib.hid (HIN.out.exit (fun _ y A' e => by rw [hAA] at e; cases e))
              have k7' : (k == 7) = true := by rw [k7]; rfl
              have hp0 : decide ((0 : Int) < (p : Int)) = false := by have := HP.out; rw [hAA] at this; simp at this; rw [← this]; rfl
              have hp1 : decide (0 < p) = false := by have := HP.out; rw [hAA] at this; simp at this; rw [← this]; rfl
              clear k7 hAA
              go_upto_region 7 with fail
              go_quiet (fail)
              go_upto_region 9 with fail
              have hbt := below_drewN HBL.out nq
              generalize wr.drewN nq = wt at hbt ⊢
              have HBT := Lib.hid hbt
              have hbwt : Below wo.heap.size wo wt := HBQ.out.trans (hbt.mono HBQ.out.size)
              have hrowt := HROW.out.later hbwt
              obtain ⟨xs, hown, hct⟩ := hrowt.cells
              rw [HKV.out, HLL.out] at hown hct
              have hob : ∀ n c, (Value.slice A5 n c).ownBlock = A5.map (·.block) := fun n c => by cases A5 <;> rfl
              have hlow : ∀ b, A5.map (·.block) = some b → w.heap.size + 3 ≤ b ∧ b < wo.heap.size := fun b e => HROW.out.block b (by rw [HKV.out, hob]; exact e)
              obtain ⟨z0, z1, z2⟩ := (HBZ3.out.later hbt).cells
              rw [HKV.out, HLL.out] at z2
              have z2' := cell_later (below_alloc1 wt (.cells #[] 29)) z2
              have hownE := World.ownsRow_made (size := 3) (e := 29) wt #[] 0 (base := wt.heap.size) (Nat.le_refl _) (Nat.zero_le _) rfl
              have hcj : j ≤ C5 := by have := HC1.out; rw [HLL.out] at this; exact this
              have hjb : j ≤ 262144 := by have := HLT.out; omega
              have hsrc := ((Src.of_own hown).later (below_alloc1 wt (.cells #[] 29))).cut hpj hcj
              have c4 : (p : Int) ≤ (C5 : Int) := by omega
              have c1 : (p : Int) ≤ (j : Int) := by omega
              have c2 : (j : Int) ≤ (C5 : Int) := by omega
              have c3 : (0 : Int) ≤ (p : Int) := by omega
              have HOWN := Lib.hid hown; have HCT := Lib.hid hct; have HOWNE := Lib.hid hownE; have HOB := Lib.hid hob; have HLOW := Lib.hid hlow; have HBWT := Lib.hid hbwt
              have HONE := Lib.hid (fun u (hu : u ∈ xs.drop (p * 3)) => hct.one' u (List.mem_of_mem_drop hu))
              have HJB := Lib.hid hjb; have HPJ := Lib.hid hpj; have HTK0 := Lib.hid htk0; have HCJ := Lib.hid hcj
              clear htk0 hown hct hownE hob hlow hrowt hbt hbwt x0 x1 x2 t0 t1 t2 hjb hpj hcj
              by_cases hcp : p = C5
              · subst hcp
                rw [if_pos rfl] at hsrc
                have HSRC := Lib.hid hsrc
                clear hsrc
                go_wp2_with (at_builtin; refine wpList_append_src _ rfl _ _ 27 rfl wt.heap.size 29 i0 _ 3 48 Tryz.underlying27 hi0 hz0 hz1 hz2 rfl (by omega) _ 0 [] rfl HOWNE.out _ (j - p) _ _ rfl HSRC.out HONE.out (by have := HJB.out; unfold maxLen; omega) (by have := HJB.out; omega) (by rw [size_alloc1]; omega) ?_; intro A7 c7 w7 hown7 hg7 hat7)
                simp only [Nat.zero_add, List.nil_append] at hown7
                have hwe : ∀ b, b < wt.heap.size → (wt.alloc (.cells #[] 29)).heap[b]? = wt.heap[b]? := fun b hb => Below.heap_alloc _ _ b hb
                have hk7 : ∀ b, b < wt.heap.size → w7.heap[b]? = wt.heap[b]? := fun b hb => by rw [hg7.block b (by rw [size_alloc1]; omega) (fun e => by have e' : b = wt.heap.size := Option.some.inj e; omega), hwe b hb]
                have hz7 : wt.heap.size + 1 ≤ w7.heap.size := by have := hg7.size; rw [size_alloc1] at this; exact this
                have hzt := HBWT.out.size
                have ht7 : ∀ {g : Nat} {a b c : Value}, Box wt g a b c → Box w7 g a b c := fun h => (hk7 _ h.lt).trans h
                have hbz := HBZ3.out.later HBT.out
                rw [HKV.out, HLL.out] at hbz
                have hbz7 := ht7 hbz
                have hqx7 := ht7 (HQX.out.later HBT.out)
                obtain ⟨y0, y1, y2⟩ := hbz7.cells
                obtain ⟨t0, t1, t2⟩ := hqx7.cells
                have hA7 : ∀ b, A7.map (·.block) = some b → wt.heap.size ≤ b := fun b e => by
                  rcases hat7 with h | h
                  · rw [h] at e; have e' : wt.heap.size = b := Option.some.inj e; omega
                  · rw [h, size_alloc1] at e; have e' : wt.heap.size + 1 = b := Option.some.inj e; omega
                have hown75 := own_take' (own_later HOWN.out (w' := w7) ⟨hg7.os, hg7.tape, hg7.output, by omega, hk7⟩) HPJ.out
                have HSRC7 := Lib.hid (Src.of_own hown7)
                have HBZ7 := Lib.hid hbz7; have HA7 := Lib.hid hA7; have HZ7 := Lib.hid hz7; have HZT := Lib.hid hzt; have HG7 := Lib.hid hg7
                have HX3 := Lib.hid (show ∀ u ∈ [Value.int .i64 x.kind, .string x.name, .slice A3 x.kids.length C3], u.oneCell' = true from HTI.out.one)
                have d1 := cell_later (below_alloc1 w7 (.cells #[.int .i64 x.kind, .string x.name, .slice A3 x.kids.length C3] 29)) y2
                have HB8 := Lib.hid (show Below w7.heap.size w7 (w7.alloc (.cells #[.int .i64 x.kind, .string x.name, .slice A3 x.kids.length C3] 29)).drew from (below_alloc1 w7 _).drew)
                have HOWN8 := Lib.hid (own_later hown75 HB8.out)
                have HSB := Lib.hid (show Src (w7.alloc (.cells #[.int .i64 x.kind, .string x.name, .slice A3 x.kids.length C3] 29)).drew 3 (some ⟨w7.heap.size, 0, none⟩) 1 [.int .i64 x.kind, .string x.name, .slice A3 x.kids.length C3] from Src.boxed w7 _ _ _)
                have HOB8 := Lib.hid (show ∀ (A : Option Addr) (n c : Nat), (Value.slice A n c).ownBlock = A.map (·.block) from fun A n c => by cases A <;> rfl)
                have HN5 := Lib.hid (show A5.map (·.block) ≠ some (w.heap.size + 1 + 1) from fun e => by have := (HLOW.out _ e).1; omega)
                have HM1 := Lib.hid (show p + 1 ≤ maxLen by have := HJB.out; have := HPJ.out; unfold maxLen; omega)
                have HM2 := Lib.hid (show (p + 1) * 48 ≤ 140737488355328 by have := HJB.out; have := HPJ.out; omega)
                have HM3 := Lib.hid (show w.heap.size + 3 ≤ ((w7.alloc (.cells #[.int .i64 x.kind, .string x.name, .slice A3 x.kids.length C3] 29)).drew).heap.size by have := HB8.out.size; have := HZ7.out; have := HZT.out; have := HSZ.out; omega)
                have HN8 := Lib.hid (show ∀ (A8 : Option Addr) (n c : Nat), (A8.map (·.block) = (Value.slice A5 n c).ownBlock ∨ A8.map (·.block) = some ((w7.alloc (.cells #[.int .i64 x.kind, .string x.name, .slice A3 x.kids.length C3] 29)).drew).heap.size) → A8.map (·.block) ≠ some (w.heap.size + 1 + 1) from fun A8 n c h e => by
                  rcases h with h | h
                  · rw [h, HOB.out] at e; exact HN5.out e
                  · rw [h] at e; have e' := Option.some.inj e; have := HM3.out; omega)
                have HM4 := Lib.hid (show p + 1 + (j - p) ≤ maxLen by have := HJB.out; have := HPJ.out; unfold maxLen; omega)
                have HM5 := Lib.hid (show (p + 1 + (j - p)) * 48 ≤ 140737488355328 by have := HJB.out; have := HPJ.out; omega)
                have HNE := Lib.hid (show A7.map (·.block) ≠ A5.map (·.block) ∨ A5.map (·.block) = none by
                  rcases h : A5.map (·.block) with _ | b
                  · exact .inr h
                  · left; intro e; have := (HLOW.out b h).2; have := HA7.out b (e.trans h); have := HZT.out; omega)
                have hjl : p + 1 + (j - p) = (AA.reverse ++ x :: Bq.reverse).length := by
                  have h1 := congrArg List.length HIN.out.1; rw [HLL.out] at h1
                  have := HP.out; have := HPJ.out
                  simp at h1 ⊢; omega
                have HFIN := Lib.hid (show ∀ (A8 A10 : Option Addr) (c c8 c10 : Nat) (w9 w10 : World), (w7.alloc (.cells #[.int .i64 x.kind, .string x.name, .slice A3 x.kids.length C3] 29)).drew.grownBy w9 (Value.slice A5 p c).ownBlock → (A8.map (·.block) = (Value.slice A5 p c).ownBlock ∨ A8.map (·.block) = some ((w7.alloc (.cells #[.int .i64 x.kind, .string x.name, .slice A3 x.kids.length C3] 29)).drew).heap.size) →
                    w9.grownBy w10 (Value.slice A8 (p + 1) c8).ownBlock → (A10.map (·.block) = (Value.slice A8 (p + 1) c8).ownBlock ∨ A10.map (·.block) = some w9.heap.size) →
                    w10.ownsRow (w.heap.size + 3) 29 3 (.slice A10 (p + 1 + (j - p)) c10) (p + 1 + (j - p)) (xs.take (p * 3) ++ [.int .i64 x.kind, .string x.name, .slice A3 x.kids.length C3] ++ xs.drop (p * 3)) →
                    OrdAt w k s (.slice (some ⟨b, off, none⟩) ks.length cap) (T.ordL k (KS.take (j + 1))) (w10.setCell ⟨w.heap.size + 1 + 1, 2, none⟩ (.slice A10 (p + 1 + (j - p)) c10)) from fun A8 A10 c c8 c10 w9 w10 g9 a9 g10 a10 ho => by
                  rw [HOB8.out] at g9 a9 g10 a10
                  rw [HTK0.out, HEX.out]
                  exact splice_end (a5 := A5.map (·.block)) (kv := .slice A5 j _) rfl (HX0.out.later HBT.out) ((HBY.out.later HBQ.out).later HBT.out) hbz (HBW.out.trans (HBWT.out.mono HBW.out.size))
                    (g10.os.trans (g9.os.trans (HB8.out.os.trans HG7.out.os))) (g10.tape.trans (g9.tape.trans (HB8.out.tape.trans HG7.out.tape))) (g10.output.trans (g9.output.trans (HB8.out.output.trans HG7.out.output)))
                    (fun b hb => (HLOW.out b hb).1) (splice_keep (by rw [size_alloc1]) hwe HG7.out HB8.out g9 a9 g10 a10) (by rw [List.length_reverse]; exact HP.out)
                    (by have h := HCT.out; rw [HOB8.out, HIN.out.1] at h; exact h)
                    (HTI.out.keep fun b hb hl => ⟨but_iff.2 ⟨by have := of_decide_eq_true hb; have := HSZ.out; omega, fun e => by have := of_decide_eq_true hb; have := (HLOW.out b e).2; omega⟩, HBT.out.block b hl⟩) hjl ho)
                clear hjl hown7 hwe hk7 hz7 hzt ht7 hbz hbz7 hqx7 hA7 hown75 hg7 hat7 z0 z1 z2 z2' y0 y1
                go_region_law (first | (refine step_append_src _ (by rfl) (.tmp 58) (.tmp 60) _ (by rfl) (w.heap.size + 3) 29 i0 _ 3 48 Tryz.underlying27 hi0 hz0 hz1 hz2 rfl (by omega) _ p _ (by rfl) HOWN8.out _ 1 1 _ (by rfl) HSB.out HX3.out HM1.out HM2.out HM3.out ?_; intro A8 c8 w9 hown9 hg9 hat9) | (refine step_append_src _ (by rfl) (.tmp 61) (.tmp 62) _ (by rfl) (w.heap.size + 3) 29 i0 _ 3 48 Tryz.underlying27 hi0 hz0 hz1 hz2 rfl (by omega) _ (p + 1) _ (by rfl) hown9 _ (j - p) c7 _ (by rfl) ((HSRC7.out.later HB8.out).grown hg9 (by rw [HOB.out]; exact HNE.out)) HONE.out HM4.out HM5.out (Nat.le_trans HM3.out hg9.size) ?_; intro A10 c10 w10 hown10 hg10 hat10; have hb10 := ((HBZ7.out.later HB8.out).grown hg9 (by rw [HOB.out]; exact HN5.out)).grown hg10 (by rw [HOB8.out A8]; exact HN8.out A8 _ _ hat9); have c10' := hb10.cells.2.2; have f10 := hb10.free.2.2))
                all_goals
                  have hfin := HFIN.out A8 A10 _ _ _ w9 w10 hg9 hat9 hg10 hat10 hown10
                  have HF := Lib.hid hfin
                  clear hfin hg9 hat9 hg10 hat10 hown10 hown9 hb10 c10' f10 y2 t0 t1 t2 d1
                  go_wp2_with fail
                  go_roundw
                  case rel => exact ⟨j + 1, HLT.out, by go_num, HF.out⟩
                  case measure => have := HLT.out; simp [intOf]; omega
              · replace hcp : ¬ C5 = p := fun e => hcp e.symm
                rw [if_neg hcp] at hsrc
                have HSRC := Lib.hid hsrc
                clear hsrc
                go_wp2_with (at_builtin; refine wpList_append_src _ rfl _ _ 27 rfl wt.heap.size 29 i0 _ 3 48 Tryz.underlying27 hi0 hz0 hz1 hz2 rfl (by omega) _ 0 [] rfl HOWNE.out _ (j - p) _ _ rfl HSRC.out HONE.out (by have := HJB.out; unfold maxLen; omega) (by have := HJB.out; omega) (by rw [size_alloc1]; omega) ?_; intro A7 c7 w7 hown7 hg7 hat7)
                simp only [Nat.zero_add, List.nil_append] at hown7
                have hwe : ∀ b, b < wt.heap.size → (wt.alloc (.cells #[] 29)).heap[b]? = wt.heap[b]? := fun b hb => Below.heap_alloc _ _ b hb
                have hk7 : ∀ b, b < wt.heap.size → w7.heap[b]? = wt.heap[b]? := fun b hb => by rw [hg7.block b (by rw [size_alloc1]; omega) (fun e => by have e' : b = wt.heap.size := Option.some.inj e; omega), hwe b hb]
                have hz7 : wt.heap.size + 1 ≤ w7.heap.size := by have := hg7.size; rw [size_alloc1] at this; exact this
                have hzt := HBWT.out.size
                have ht7 : ∀ {g : Nat} {a b c : Value}, Box wt g a b c → Box w7 g a b c := fun h => (hk7 _ h.lt).trans h
                have hbz := HBZ3.out.later HBT.out
                rw [HKV.out, HLL.out] at hbz
                have hbz7 := ht7 hbz
                have hqx7 := ht7 (HQX.out.later HBT.out)
                obtain ⟨y0, y1, y2⟩ := hbz7.cells
                obtain ⟨t0, t1, t2⟩ := hqx7.cells
                have hA7 : ∀ b, A7.map (·.block) = some b → wt.heap.size ≤ b := fun b e => by
                  rcases hat7 with h | h
                  · rw [h] at e; have e' : wt.heap.size = b := Option.some.inj e; omega
                  · rw [h, size_alloc1] at e; have e' : wt.heap.size + 1 = b := Option.some.inj e; omega
                have hown75 := own_take' (own_later HOWN.out (w' := w7) ⟨hg7.os, hg7.tape, hg7.output, by omega, hk7⟩) HPJ.out
                have HSRC7 := Lib.hid (Src.of_own hown7)
                have HBZ7 := Lib.hid hbz7; have HA7 := Lib.hid hA7; have HZ7 := Lib.hid hz7; have HZT := Lib.hid hzt; have HG7 := Lib.hid hg7
                have HX3 := Lib.hid (show ∀ u ∈ [Value.int .i64 x.kind, .string x.name, .slice A3 x.kids.length C3], u.oneCell' = true from HTI.out.one)
                have d1 := cell_later (below_alloc1 w7 (.cells #[.int .i64 x.kind, .string x.name, .slice A3 x.kids.length C3] 29)) y2
                have HB8 := Lib.hid (show Below w7.heap.size w7 (w7.alloc (.cells #[.int .i64 x.kind, .string x.name, .slice A3 x.kids.length C3] 29)).drew from (below_alloc1 w7 _).drew)
                have HOWN8 := Lib.hid (own_later hown75 HB8.out)
                have HSB := Lib.hid (show Src (w7.alloc (.cells #[.int .i64 x.kind, .string x.name, .slice A3 x.kids.length C3] 29)).drew 3 (some ⟨w7.heap.size, 0, none⟩) 1 [.int .i64 x.kind, .string x.name, .slice A3 x.kids.length C3] from Src.boxed w7 _ _ _)
                have HOB8 := Lib.hid (show ∀ (A : Option Addr) (n c : Nat), (Value.slice A n c).ownBlock = A.map (·.block) from fun A n c => by cases A <;> rfl)
                have HN5 := Lib.hid (show A5.map (·.block) ≠ some (w.heap.size + 1 + 1) from fun e => by have := (HLOW.out _ e).1; omega)
                have HM1 := Lib.hid (show p + 1 ≤ maxLen by have := HJB.out; have := HPJ.out; unfold maxLen; omega)
                have HM2 := Lib.hid (show (p + 1) * 48 ≤ 140737488355328 by have := HJB.out; have := HPJ.out; omega)
                have HM3 := Lib.hid (show w.heap.size + 3 ≤ ((w7.alloc (.cells #[.int .i64 x.kind, .string x.name, .slice A3 x.kids.length C3] 29)).drew).heap.size by have := HB8.out.size; have := HZ7.out; have := HZT.out; have := HSZ.out; omega)
                have HN8 := Lib.hid (show ∀ (A8 : Option Addr) (n c : Nat), (A8.map (·.block) = (Value.slice A5 n c).ownBlock ∨ A8.map (·.block) = some ((w7.alloc (.cells #[.int .i64 x.kind, .string x.name, .slice A3 x.kids.length C3] 29)).drew).heap.size) → A8.map (·.block) ≠ some (w.heap.size + 1 + 1) from fun A8 n c h e => by
                  rcases h with h | h
                  · rw [h, HOB.out] at e; exact HN5.out e
                  · rw [h] at e; have e' := Option.some.inj e; have := HM3.out; omega)
                have HM4 := Lib.hid (show p + 1 + (j - p) ≤ maxLen by have := HJB.out; have := HPJ.out; unfold maxLen; omega)
                have HM5 := Lib.hid (show (p + 1 + (j - p)) * 48 ≤ 140737488355328 by have := HJB.out; have := HPJ.out; omega)
                have HNE := Lib.hid (show A7.map (·.block) ≠ A5.map (·.block) ∨ A5.map (·.block) = none by
                  rcases h : A5.map (·.block) with _ | b
                  · exact .inr h
                  · left; intro e; have := (HLOW.out b h).2; have := HA7.out b (e.trans h); have := HZT.out; omega)
                have hjl : p + 1 + (j - p) = (AA.reverse ++ x :: Bq.reverse).length := by
                  have h1 := congrArg List.length HIN.out.1; rw [HLL.out] at h1
                  have := HP.out; have := HPJ.out
                  simp at h1 ⊢; omega
                have HFIN := Lib.hid (show ∀ (A8 A10 : Option Addr) (c c8 c10 : Nat) (w9 w10 : World), (w7.alloc (.cells #[.int .i64 x.kind, .string x.name, .slice A3 x.kids.length C3] 29)).drew.grownBy w9 (Value.slice A5 p c).ownBlock → (A8.map (·.block) = (Value.slice A5 p c).ownBlock ∨ A8.map (·.block) = some ((w7.alloc (.cells #[.int .i64 x.kind, .string x.name, .slice A3 x.kids.length C3] 29)).drew).heap.size) →
                    w9.grownBy w10 (Value.slice A8 (p + 1) c8).ownBlock → (A10.map (·.block) = (Value.slice A8 (p + 1) c8).ownBlock ∨ A10.map (·.block) = some w9.heap.size) →
                    w10.ownsRow (w.heap.size + 3) 29 3 (.slice A10 (p + 1 + (j - p)) c10) (p + 1 + (j - p)) (xs.take (p * 3) ++ [.int .i64 x.kind, .string x.name, .slice A3 x.kids.length C3] ++ xs.drop (p * 3)) →
                    OrdAt w k s (.slice (some ⟨b, off, none⟩) ks.length cap) (T.ordL k (KS.take (j + 1))) (w10.setCell ⟨w.heap.size + 1 + 1, 2, none⟩ (.slice A10 (p + 1 + (j - p)) c10)) from fun A8 A10 c c8 c10 w9 w10 g9 a9 g10 a10 ho => by
                  rw [HOB8.out] at g9 a9 g10 a10
                  rw [HTK0.out, HEX.out]
                  exact splice_end (a5 := A5.map (·.block)) (kv := .slice A5 j _) rfl (HX0.out.later HBT.out) ((HBY.out.later HBQ.out).later HBT.out) hbz (HBW.out.trans (HBWT.out.mono HBW.out.size))
                    (g10.os.trans (g9.os.trans (HB8.out.os.trans HG7.out.os))) (g10.tape.trans (g9.tape.trans (HB8.out.tape.trans HG7.out.tape))) (g10.output.trans (g9.output.trans (HB8.out.output.trans HG7.out.output)))
                    (fun b hb => (HLOW.out b hb).1) (splice_keep (by rw [size_alloc1]) hwe HG7.out HB8.out g9 a9 g10 a10) (by rw [List.length_reverse]; exact HP.out)
                    (by have h := HCT.out; rw [HOB8.out, HIN.out.1] at h; exact h)
                    (HTI.out.keep fun b hb hl => ⟨but_iff.2 ⟨by have := of_decide_eq_true hb; have := HSZ.out; omega, fun e => by have := of_decide_eq_true hb; have := (HLOW.out b e).2; omega⟩, HBT.out.block b hl⟩) hjl ho)
                clear hjl hown7 hwe hk7 hz7 hzt ht7 hbz hbz7 hqx7 hA7 hown75 hg7 hat7 z0 z1 z2 z2' y0 y1
                go_region_law (first | (refine step_append_src _ (by rfl) (.tmp 58) (.tmp 60) _ (by rfl) (w.heap.size + 3) 29 i0 _ 3 48 Tryz.underlying27 hi0 hz0 hz1 hz2 rfl (by omega) _ p _ (by rfl) HOWN8.out _ 1 1 _ (by rfl) HSB.out HX3.out HM1.out HM2.out HM3.out ?_; intro A8 c8 w9 hown9 hg9 hat9) | (refine step_append_src _ (by rfl) (.tmp 61) (.tmp 62) _ (by rfl) (w.heap.size + 3) 29 i0 _ 3 48 Tryz.underlying27 hi0 hz0 hz1 hz2 rfl (by omega) _ (p + 1) _ (by rfl) hown9 _ (j - p) c7 _ (by rfl) ((HSRC7.out.later HB8.out).grown hg9 (by rw [HOB.out]; exact HNE.out)) HONE.out HM4.out HM5.out (Nat.le_trans HM3.out hg9.size) ?_; intro A10 c10 w10 hown10 hg10 hat10; have hb10 := ((HBZ7.out.later HB8.out).grown hg9 (by rw [HOB.out]; exact HN5.out)).grown hg10 (by rw [HOB8.out A8]; exact HN8.out A8 _ _ hat9); have c10' := hb10.cells.2.2; have f10 := hb10.free.2.2))
                all_goals
                  have hfin := HFIN.out A8 A10 _ _ _ w9 w10 hg9 hat9 hg10 hat10 hown10
                  have HF := Lib.hid hfin
                  clear hfin hg9 hat9 hg10 hat10 hown10 hown9 hb10 c10' f10 y2 t0 t1 t2 d1
                  go_wp2_with fail
                  go_roundw
                  case rel => exact ⟨j + 1, HLT.out, by go_num, HF.out⟩
                  case measure => have := HLT.out; simp [intOf]; omega
            · have HAA := Lib.hid hAA
              have k7' : (k == 7) = true := by rw [k7]; rfl
              obtain ⟨q, hq⟩ : ∃ q, A'.length = q := ⟨_, rfl⟩
              have hpq : p = q + 1 := by have := HP.out; rw [hAA] at this; simp at this; omega
              have hrw := HROW.out.later (HBQ.out.trans (hbl.mono HBQ.out.size))
              have hLe := HIN.out.1
              rw [hAA] at hLe
              rcases hrw with ⟨_, hnil⟩ | ⟨g, C6, hkv6, hrT⟩
              · rw [hnil] at hLe; simp at hLe
              have h56 := HKV.out.symm.trans hkv6
              simp only [Value.slice.injEq, true_and] at h56
              obtain ⟨rfl, rfl⟩ := h56
              have ey : (T.ordL k (KS.take j))[q]'(by rw [HLL.out]; omega) = y := by
                simp only [hLe, List.reverse_cons, List.append_assoc]
                rw [List.getElem_append_right (by simp; omega)]
                simp [← hq]
              obtain ⟨A6, C6, c0, c1, c2, hy0⟩ := hrT.at q (by rw [HLL.out]; omega)
              rw [ey] at c0 c1 c2 hy0
              have HY0 := Lib.hid hy0.at
              have HXW := Lib.hid (HTI.out.at.later hbl)
              have hby : y.bulk ≤ 1048576 := by
                have h1 := T.bulk_at _ q (show q < (T.ordL k (KS.take j)).length by rw [HLL.out]; omega)
                rw [ey] at h1
                have h2 : T.bulkAll (T.ordL k (KS.take j)) ≤ T.bulkAll KS := by unfold T.ordL; split <;> (try rw [T.bulkAll_isort]) <;> exact T.bulkAll_take _ _
                have := HKB.out; omega
              obtain ⟨c, hcv⟩ : ∃ c, T.cmp y x = c := ⟨_, rfl⟩
              have HCV := Lib.hid hcv
              have HC := Lib.hid (fun W h1 h2 => hcv ▸ rcmp (y.bulk + 1) y x (.agg #[.int .i64 y.kind, .string y.name, .slice A6 y.kids.length C6]) (.agg #[.int .i64 x.kind, .string x.name, .slice A3 x.kids.length C3]) W (by omega) h1 h2 hby HBKX.out)
              have p0 : (0 : Int) < (p : Int) := by omega
              have p0' : decide ((0 : Int) < (p : Int)) = true := decide_eq_true p0
              have p0'' : decide (0 < p) = true := decide_eq_true (by omega)
              have p1 : IntKind.i64.wrap ((p : Int) - 1) = (q : Int) := by rw [IntWalk.i64_in _ (by have := HLT.out; omega)]; omega
              have p2 : (0 : Int) ≤ (q : Int) := by omega
              have p3 : (q : Int) < (j : Int) := by omega
              have HPQ := Lib.hid hpq; have HQ := Lib.hid hq
              clear hrT hLe hy0 ey hby hcv hpq hq hAA k7 hkv6
              go_upto_region 7 with fail
              go_region_held3 (fun W => W.cell? ⟨w.heap.size, 0, none⟩ = some (.int .i64 k) ∧ W.cell? ⟨w.heap.size + 1 + 1, 2, none⟩ = some (.slice (some ⟨g, 0, none⟩) j C5) ∧ W.cell? ⟨g, q * 3, none⟩ = some (.int .i64 y.kind) ∧ W.cell? ⟨g, q * 3 + 1, none⟩ = some (.string y.name) ∧ W.cell? ⟨g, q * 3 + 2, none⟩ = some (.slice A6 y.kids.length C6) ∧ W.cell? ⟨w2.heap.size, 0, none⟩ = some (.int .i64 x.kind) ∧ W.cell? ⟨w2.heap.size, 1, none⟩ = some (.string x.name) ∧ W.cell? ⟨w2.heap.size, 2, none⟩ = some (.slice A3 x.kids.length C3) ∧ Below wr.heap.size wr W)
                (first | exact ⟨x0, z2, c0, c1, c2, t0, t1, t2, Below.refl _ _⟩ | exact ⟨x0, z2, c0, c1, c2, t0, t1, t2, (Below.refl _ _).drew⟩ | exact eight_later (by assumption) hb4 | go_keep)
                ((go_at_call 56; refine (HC.out _ HY0.out.drew HXW.out.drew).mono ?_; rintro e w5 ⟨rfl, hb4⟩))
              rename_i hS
              have hbt : Below wq.heap.size wq w5 := HBL.out.trans (hS.2.2.2.2.2.2.2.2.mono HBL.out.size)
              clear hS hb4 c0 c1 c2 x0 x1 x2 z0 z1 z2 t0 t1 t2
              by_cases hc : 0 < c
              · have HST2 := Lib.hid (InnerAt.step (y := y) (A := A') (by have := HIN.out; rw [HAA.out] at this; exact this) (by simpa using k7') (by rw [T.cmp_anti, HCV.out]; omega))
                have HBT := Lib.hid hbt
                clear hbt
                go_wp2_with fail
                go_roundw
                case rel => exact ⟨A', Bq ++ [y], by rw [HQ.out], HST2.out, HBT.out⟩
                case measure => have := HPQ.out; simp [intOf]; omega
              have HEX := Lib.hid (HIN.out.exit (fun _ y' A'' e hc' => by
                rw [HAA.out] at e; injection e with e1 e2; subst e1; rw [T.cmp_anti, HCV.out] at hc'; omega))
              have hc' : c ≤ 0 := by omega
              clear hc
              go_upto_region 9 with fail
              generalize w5 = wt at hbt ⊢
              obtain ⟨x0, x1, x2⟩ : True ∧ True ∧ True := ⟨trivial, trivial, trivial⟩
              obtain ⟨t0, t1, t2⟩ : True ∧ True ∧ True := ⟨trivial, trivial, trivial⟩
              generalize hA5 : (some ⟨g, 0, none⟩ : Option Addr) = A5 at *
              have HBT := Lib.hid hbt
              have hbwt : Below wo.heap.size wo wt := HBQ.out.trans (hbt.mono HBQ.out.size)
              have hrowt := HROW.out.later hbwt
              obtain ⟨xs, hown, hct⟩ := hrowt.cells
              rw [HKV.out, HLL.out] at hown hct
              have hob : ∀ n c, (Value.slice A5 n c).ownBlock = A5.map (·.block) := fun n c => by cases A5 <;> rfl
              have hlow : ∀ b, A5.map (·.block) = some b → w.heap.size + 3 ≤ b ∧ b < wo.heap.size := fun b e => HROW.out.block b (by rw [HKV.out, hob]; exact e)
              obtain ⟨z0, z1, z2⟩ := (HBZ3.out.later hbt).cells
              rw [HKV.out, HLL.out] at z2
              have z2' := cell_later (below_alloc1 wt (.cells #[] 29)) z2
              have hownE := World.ownsRow_made (size := 3) (e := 29) wt #[] 0 (base := wt.heap.size) (Nat.le_refl _) (Nat.zero_le _) rfl
              have hcj : j ≤ C5 := by have := HC1.out; rw [HLL.out] at this; exact this
              have hjb : j ≤ 262144 := by have := HLT.out; omega
              have hsrc := ((Src.of_own hown).later (below_alloc1 wt (.cells #[] 29))).cut hpj hcj
              have c4 : (p : Int) ≤ (C5 : Int) := by omega
              have c1 : (p : Int) ≤ (j : Int) := by omega
              have c2 : (j : Int) ≤ (C5 : Int) := by omega
              have c3 : (0 : Int) ≤ (p : Int) := by omega
              have HOWN := Lib.hid hown; have HCT := Lib.hid hct; have HOWNE := Lib.hid hownE; have HOB := Lib.hid hob; have HLOW := Lib.hid hlow; have HBWT := Lib.hid hbwt
              have HONE := Lib.hid (fun u (hu : u ∈ xs.drop (p * 3)) => hct.one' u (List.mem_of_mem_drop hu))
              have HJB := Lib.hid hjb; have HPJ := Lib.hid hpj; have HTK0 := Lib.hid htk0; have HCJ := Lib.hid hcj
              clear htk0 hown hct hownE hob hlow hrowt hbt hbwt x0 x1 x2 t0 t1 t2 hjb hpj hcj
              by_cases hcp : p = C5
              · subst hcp
                rw [if_pos rfl] at hsrc
                have HSRC := Lib.hid hsrc
                clear hsrc
                go_wp2_with (at_builtin; refine wpList_append_src _ rfl _ _ 27 rfl wt.heap.size 29 i0 _ 3 48 Tryz.underlying27 hi0 hz0 hz1 hz2 rfl (by omega) _ 0 [] rfl HOWNE.out _ (j - p) _ _ rfl HSRC.out HONE.out (by have := HJB.out; unfold maxLen; omega) (by have := HJB.out; omega) (by rw [size_alloc1]; omega) ?_; intro A7 c7 w7 hown7 hg7 hat7)
                simp only [Nat.zero_add, List.nil_append] at hown7
                have hwe : ∀ b, b < wt.heap.size → (wt.alloc (.cells #[] 29)).heap[b]? = wt.heap[b]? := fun b hb => Below.heap_alloc _ _ b hb
                have hk7 : ∀ b, b < wt.heap.size → w7.heap[b]? = wt.heap[b]? := fun b hb => by rw [hg7.block b (by rw [size_alloc1]; omega) (fun e => by have e' : b = wt.heap.size := Option.some.inj e; omega), hwe b hb]
                have hz7 : wt.heap.size + 1 ≤ w7.heap.size := by have := hg7.size; rw [size_alloc1] at this; exact this
                have hzt := HBWT.out.size
                have ht7 : ∀ {g : Nat} {a b c : Value}, Box wt g a b c → Box w7 g a b c := fun h => (hk7 _ h.lt).trans h
                have hbz := HBZ3.out.later HBT.out
                rw [HKV.out, HLL.out] at hbz
                have hbz7 := ht7 hbz
                have hqx7 := ht7 (HQX.out.later HBT.out)
                obtain ⟨y0, y1, y2⟩ := hbz7.cells
                obtain ⟨t0, t1, t2⟩ := hqx7.cells
                have hA7 : ∀ b, A7.map (·.block) = some b → wt.heap.size ≤ b := fun b e => by
                  rcases hat7 with h | h
                  · rw [h] at e; have e' : wt.heap.size = b := Option.some.inj e; omega
                  · rw [h, size_alloc1] at e; have e' : wt.heap.size + 1 = b := Option.some.inj e; omega
                have hown75 := own_take' (own_later HOWN.out (w' := w7) ⟨hg7.os, hg7.tape, hg7.output, by omega, hk7⟩) HPJ.out
                have HSRC7 := Lib.hid (Src.of_own hown7)
                have HBZ7 := Lib.hid hbz7; have HA7 := Lib.hid hA7; have HZ7 := Lib.hid hz7; have HZT := Lib.hid hzt; have HG7 := Lib.hid hg7
                have HX3 := Lib.hid (show ∀ u ∈ [Value.int .i64 x.kind, .string x.name, .slice A3 x.kids.length C3], u.oneCell' = true from HTI.out.one)
                have d1 := cell_later (below_alloc1 w7 (.cells #[.int .i64 x.kind, .string x.name, .slice A3 x.kids.length C3] 29)) y2
                have HB8 := Lib.hid (show Below w7.heap.size w7 (w7.alloc (.cells #[.int .i64 x.kind, .string x.name, .slice A3 x.kids.length C3] 29)).drew from (below_alloc1 w7 _).drew)
                have HOWN8 := Lib.hid (own_later hown75 HB8.out)
                have HSB := Lib.hid (show Src (w7.alloc (.cells #[.int .i64 x.kind, .string x.name, .slice A3 x.kids.length C3] 29)).drew 3 (some ⟨w7.heap.size, 0, none⟩) 1 [.int .i64 x.kind, .string x.name, .slice A3 x.kids.length C3] from Src.boxed w7 _ _ _)
                have HOB8 := Lib.hid (show ∀ (A : Option Addr) (n c : Nat), (Value.slice A n c).ownBlock = A.map (·.block) from fun A n c => by cases A <;> rfl)
                have HN5 := Lib.hid (show A5.map (·.block) ≠ some (w.heap.size + 1 + 1) from fun e => by have := (HLOW.out _ e).1; omega)
                have HM1 := Lib.hid (show p + 1 ≤ maxLen by have := HJB.out; have := HPJ.out; unfold maxLen; omega)
                have HM2 := Lib.hid (show (p + 1) * 48 ≤ 140737488355328 by have := HJB.out; have := HPJ.out; omega)
                have HM3 := Lib.hid (show w.heap.size + 3 ≤ ((w7.alloc (.cells #[.int .i64 x.kind, .string x.name, .slice A3 x.kids.length C3] 29)).drew).heap.size by have := HB8.out.size; have := HZ7.out; have := HZT.out; have := HSZ.out; omega)
                have HN8 := Lib.hid (show ∀ (A8 : Option Addr) (n c : Nat), (A8.map (·.block) = (Value.slice A5 n c).ownBlock ∨ A8.map (·.block) = some ((w7.alloc (.cells #[.int .i64 x.kind, .string x.name, .slice A3 x.kids.length C3] 29)).drew).heap.size) → A8.map (·.block) ≠ some (w.heap.size + 1 + 1) from fun A8 n c h e => by
                  rcases h with h | h
                  · rw [h, HOB.out] at e; exact HN5.out e
                  · rw [h] at e; have e' := Option.some.inj e; have := HM3.out; omega)
                have HM4 := Lib.hid (show p + 1 + (j - p) ≤ maxLen by have := HJB.out; have := HPJ.out; unfold maxLen; omega)
                have HM5 := Lib.hid (show (p + 1 + (j - p)) * 48 ≤ 140737488355328 by have := HJB.out; have := HPJ.out; omega)
                have HNE := Lib.hid (show A7.map (·.block) ≠ A5.map (·.block) ∨ A5.map (·.block) = none by
                  rcases h : A5.map (·.block) with _ | b
                  · exact .inr h
                  · left; intro e; have := (HLOW.out b h).2; have := HA7.out b (e.trans h); have := HZT.out; omega)
                have hjl : p + 1 + (j - p) = (AA.reverse ++ x :: Bq.reverse).length := by
                  have h1 := congrArg List.length HIN.out.1; rw [HLL.out] at h1
                  have := HP.out; have := HPJ.out
                  simp at h1 ⊢; omega
                have HFIN := Lib.hid (show ∀ (A8 A10 : Option Addr) (c c8 c10 : Nat) (w9 w10 : World), (w7.alloc (.cells #[.int .i64 x.kind, .string x.name, .slice A3 x.kids.length C3] 29)).drew.grownBy w9 (Value.slice A5 p c).ownBlock → (A8.map (·.block) = (Value.slice A5 p c).ownBlock ∨ A8.map (·.block) = some ((w7.alloc (.cells #[.int .i64 x.kind, .string x.name, .slice A3 x.kids.length C3] 29)).drew).heap.size) →
                    w9.grownBy w10 (Value.slice A8 (p + 1) c8).ownBlock → (A10.map (·.block) = (Value.slice A8 (p + 1) c8).ownBlock ∨ A10.map (·.block) = some w9.heap.size) →
                    w10.ownsRow (w.heap.size + 3) 29 3 (.slice A10 (p + 1 + (j - p)) c10) (p + 1 + (j - p)) (xs.take (p * 3) ++ [.int .i64 x.kind, .string x.name, .slice A3 x.kids.length C3] ++ xs.drop (p * 3)) →
                    OrdAt w k s (.slice (some ⟨b, off, none⟩) ks.length cap) (T.ordL k (KS.take (j + 1))) (w10.setCell ⟨w.heap.size + 1 + 1, 2, none⟩ (.slice A10 (p + 1 + (j - p)) c10)) from fun A8 A10 c c8 c10 w9 w10 g9 a9 g10 a10 ho => by
                  rw [HOB8.out] at g9 a9 g10 a10
                  rw [HTK0.out, HEX.out]
                  exact splice_end (a5 := A5.map (·.block)) (kv := .slice A5 j _) rfl (HX0.out.later HBT.out) ((HBY.out.later HBQ.out).later HBT.out) hbz (HBW.out.trans (HBWT.out.mono HBW.out.size))
                    (g10.os.trans (g9.os.trans (HB8.out.os.trans HG7.out.os))) (g10.tape.trans (g9.tape.trans (HB8.out.tape.trans HG7.out.tape))) (g10.output.trans (g9.output.trans (HB8.out.output.trans HG7.out.output)))
                    (fun b hb => (HLOW.out b hb).1) (splice_keep (by rw [size_alloc1]) hwe HG7.out HB8.out g9 a9 g10 a10) (by rw [List.length_reverse]; exact HP.out)
                    (by have h := HCT.out; rw [HOB8.out, HIN.out.1] at h; exact h)
                    (HTI.out.keep fun b hb hl => ⟨but_iff.2 ⟨by have := of_decide_eq_true hb; have := HSZ.out; omega, fun e => by have := of_decide_eq_true hb; have := (HLOW.out b e).2; omega⟩, HBT.out.block b hl⟩) hjl ho)
                clear hjl hown7 hwe hk7 hz7 hzt ht7 hbz hbz7 hqx7 hA7 hown75 hg7 hat7 z0 z1 z2 z2' y0 y1
                go_region_law (first | (refine step_append_src _ (by rfl) (.tmp 58) (.tmp 60) _ (by rfl) (w.heap.size + 3) 29 i0 _ 3 48 Tryz.underlying27 hi0 hz0 hz1 hz2 rfl (by omega) _ p _ (by rfl) HOWN8.out _ 1 1 _ (by rfl) HSB.out HX3.out HM1.out HM2.out HM3.out ?_; intro A8 c8 w9 hown9 hg9 hat9) | (refine step_append_src _ (by rfl) (.tmp 61) (.tmp 62) _ (by rfl) (w.heap.size + 3) 29 i0 _ 3 48 Tryz.underlying27 hi0 hz0 hz1 hz2 rfl (by omega) _ (p + 1) _ (by rfl) hown9 _ (j - p) c7 _ (by rfl) ((HSRC7.out.later HB8.out).grown hg9 (by rw [HOB.out]; exact HNE.out)) HONE.out HM4.out HM5.out (Nat.le_trans HM3.out hg9.size) ?_; intro A10 c10 w10 hown10 hg10 hat10; have hb10 := ((HBZ7.out.later HB8.out).grown hg9 (by rw [HOB.out]; exact HN5.out)).grown hg10 (by rw [HOB8.out A8]; exact HN8.out A8 _ _ hat9); have c10' := hb10.cells.2.2; have f10 := hb10.free.2.2))
                all_goals
                  have hfin := HFIN.out A8 A10 _ _ _ w9 w10 hg9 hat9 hg10 hat10 hown10
                  have HF := Lib.hid hfin
                  clear hfin hg9 hat9 hg10 hat10 hown10 hown9 hb10 c10' f10 y2 t0 t1 t2 d1
                  go_wp2_with fail
                  go_roundw
                  case rel => exact ⟨j + 1, HLT.out, by go_num, HF.out⟩
                  case measure => have := HLT.out; simp [intOf]; omega
              · replace hcp : ¬ C5 = p := fun e => hcp e.symm
                rw [if_neg hcp] at hsrc
                have HSRC := Lib.hid hsrc
                clear hsrc
                go_wp2_with (at_builtin; refine wpList_append_src _ rfl _ _ 27 rfl wt.heap.size 29 i0 _ 3 48 Tryz.underlying27 hi0 hz0 hz1 hz2 rfl (by omega) _ 0 [] rfl HOWNE.out _ (j - p) _ _ rfl HSRC.out HONE.out (by have := HJB.out; unfold maxLen; omega) (by have := HJB.out; omega) (by rw [size_alloc1]; omega) ?_; intro A7 c7 w7 hown7 hg7 hat7)
                simp only [Nat.zero_add, List.nil_append] at hown7
                have hwe : ∀ b, b < wt.heap.size → (wt.alloc (.cells #[] 29)).heap[b]? = wt.heap[b]? := fun b hb => Below.heap_alloc _ _ b hb
                have hk7 : ∀ b, b < wt.heap.size → w7.heap[b]? = wt.heap[b]? := fun b hb => by rw [hg7.block b (by rw [size_alloc1]; omega) (fun e => by have e' : b = wt.heap.size := Option.some.inj e; omega), hwe b hb]
                have hz7 : wt.heap.size + 1 ≤ w7.heap.size := by have := hg7.size; rw [size_alloc1] at this; exact this
                have hzt := HBWT.out.size
                have ht7 : ∀ {g : Nat} {a b c : Value}, Box wt g a b c → Box w7 g a b c := fun h => (hk7 _ h.lt).trans h
                have hbz := HBZ3.out.later HBT.out
                rw [HKV.out, HLL.out] at hbz
                have hbz7 := ht7 hbz
                have hqx7 := ht7 (HQX.out.later HBT.out)
                obtain ⟨y0, y1, y2⟩ := hbz7.cells
                obtain ⟨t0, t1, t2⟩ := hqx7.cells
                have hA7 : ∀ b, A7.map (·.block) = some b → wt.heap.size ≤ b := fun b e => by
                  rcases hat7 with h | h
                  · rw [h] at e; have e' : wt.heap.size = b := Option.some.inj e; omega
                  · rw [h, size_alloc1] at e; have e' : wt.heap.size + 1 = b := Option.some.inj e; omega
                have hown75 := own_take' (own_later HOWN.out (w' := w7) ⟨hg7.os, hg7.tape, hg7.output, by omega, hk7⟩) HPJ.out
                have HSRC7 := Lib.hid (Src.of_own hown7)
                have HBZ7 := Lib.hid hbz7; have HA7 := Lib.hid hA7; have HZ7 := Lib.hid hz7; have HZT := Lib.hid hzt; have HG7 := Lib.hid hg7
                have HX3 := Lib.hid (show ∀ u ∈ [Value.int .i64 x.kind, .string x.name, .slice A3 x.kids.length C3], u.oneCell' = true from HTI.out.one)
                have d1 := cell_later (below_alloc1 w7 (.cells #[.int .i64 x.kind, .string x.name, .slice A3 x.kids.length C3] 29)) y2
                have HB8 := Lib.hid (show Below w7.heap.size w7 (w7.alloc (.cells #[.int .i64 x.kind, .string x.name, .slice A3 x.kids.length C3] 29)).drew from (below_alloc1 w7 _).drew)
                have HOWN8 := Lib.hid (own_later hown75 HB8.out)
                have HSB := Lib.hid (show Src (w7.alloc (.cells #[.int .i64 x.kind, .string x.name, .slice A3 x.kids.length C3] 29)).drew 3 (some ⟨w7.heap.size, 0, none⟩) 1 [.int .i64 x.kind, .string x.name, .slice A3 x.kids.length C3] from Src.boxed w7 _ _ _)
                have HOB8 := Lib.hid (show ∀ (A : Option Addr) (n c : Nat), (Value.slice A n c).ownBlock = A.map (·.block) from fun A n c => by cases A <;> rfl)
                have HN5 := Lib.hid (show A5.map (·.block) ≠ some (w.heap.size + 1 + 1) from fun e => by have := (HLOW.out _ e).1; omega)
                have HM1 := Lib.hid (show p + 1 ≤ maxLen by have := HJB.out; have := HPJ.out; unfold maxLen; omega)
                have HM2 := Lib.hid (show (p + 1) * 48 ≤ 140737488355328 by have := HJB.out; have := HPJ.out; omega)
                have HM3 := Lib.hid (show w.heap.size + 3 ≤ ((w7.alloc (.cells #[.int .i64 x.kind, .string x.name, .slice A3 x.kids.length C3] 29)).drew).heap.size by have := HB8.out.size; have := HZ7.out; have := HZT.out; have := HSZ.out; omega)
                have HN8 := Lib.hid (show ∀ (A8 : Option Addr) (n c : Nat), (A8.map (·.block) = (Value.slice A5 n c).ownBlock ∨ A8.map (·.block) = some ((w7.alloc (.cells #[.int .i64 x.kind, .string x.name, .slice A3 x.kids.length C3] 29)).drew).heap.size) → A8.map (·.block) ≠ some (w.heap.size + 1 + 1) from fun A8 n c h e => by
                  rcases h with h | h
                  · rw [h, HOB.out] at e; exact HN5.out e
                  · rw [h] at e; have e' := Option.some.inj e; have := HM3.out; omega)
                have HM4 := Lib.hid (show p + 1 + (j - p) ≤ maxLen by have := HJB.out; have := HPJ.out; unfold maxLen; omega)
                have HM5 := Lib.hid (show (p + 1 + (j - p)) * 48 ≤ 140737488355328 by have := HJB.out; have := HPJ.out; omega)
                have HNE := Lib.hid (show A7.map (·.block) ≠ A5.map (·.block) ∨ A5.map (·.block) = none by
                  rcases h : A5.map (·.block) with _ | b
                  · exact .inr h
                  · left; intro e; have := (HLOW.out b h).2; have := HA7.out b (e.trans h); have := HZT.out; omega)
                have hjl : p + 1 + (j - p) = (AA.reverse ++ x :: Bq.reverse).length := by
                  have h1 := congrArg List.length HIN.out.1; rw [HLL.out] at h1
                  have := HP.out; have := HPJ.out
                  simp at h1 ⊢; omega
                have HFIN := Lib.hid (show ∀ (A8 A10 : Option Addr) (c c8 c10 : Nat) (w9 w10 : World), (w7.alloc (.cells #[.int .i64 x.kind, .string x.name, .slice A3 x.kids.length C3] 29)).drew.grownBy w9 (Value.slice A5 p c).ownBlock → (A8.map (·.block) = (Value.slice A5 p c).ownBlock ∨ A8.map (·.block) = some ((w7.alloc (.cells #[.int .i64 x.kind, .string x.name, .slice A3 x.kids.length C3] 29)).drew).heap.size) →
                    w9.grownBy w10 (Value.slice A8 (p + 1) c8).ownBlock → (A10.map (·.block) = (Value.slice A8 (p + 1) c8).ownBlock ∨ A10.map (·.block) = some w9.heap.size) →
                    w10.ownsRow (w.heap.size + 3) 29 3 (.slice A10 (p + 1 + (j - p)) c10) (p + 1 + (j - p)) (xs.take (p * 3) ++ [.int .i64 x.kind, .string x.name, .slice A3 x.kids.length C3] ++ xs.drop (p * 3)) →
                    OrdAt w k s (.slice (some ⟨b, off, none⟩) ks.length cap) (T.ordL k (KS.take (j + 1))) (w10.setCell ⟨w.heap.size + 1 + 1, 2, none⟩ (.slice A10 (p + 1 + (j - p)) c10)) from fun A8 A10 c c8 c10 w9 w10 g9 a9 g10 a10 ho => by
                  rw [HOB8.out] at g9 a9 g10 a10
                  rw [HTK0.out, HEX.out]
                  exact splice_end (a5 := A5.map (·.block)) (kv := .slice A5 j _) rfl (HX0.out.later HBT.out) ((HBY.out.later HBQ.out).later HBT.out) hbz (HBW.out.trans (HBWT.out.mono HBW.out.size))
                    (g10.os.trans (g9.os.trans (HB8.out.os.trans HG7.out.os))) (g10.tape.trans (g9.tape.trans (HB8.out.tape.trans HG7.out.tape))) (g10.output.trans (g9.output.trans (HB8.out.output.trans HG7.out.output)))
                    (fun b hb => (HLOW.out b hb).1) (splice_keep (by rw [size_alloc1]) hwe HG7.out HB8.out g9 a9 g10 a10) (by rw [List.length_reverse]; exact HP.out)
                    (by have h := HCT.out; rw [HOB8.out, HIN.out.1] at h; exact h)
                    (HTI.out.keep fun b hb hl => ⟨but_iff.2 ⟨by have := of_decide_eq_true hb; have := HSZ.out; omega, fun e => by have := of_decide_eq_true hb; have := (HLOW.out b e).2; omega⟩, HBT.out.block b hl⟩) hjl ho)
                clear hjl hown7 hwe hk7 hz7 hzt ht7 hbz hbz7 hqx7 hA7 hown75 hg7 hat7 z0 z1 z2 z2' y0 y1
                go_region_law (first | (refine step_append_src _ (by rfl) (.tmp 58) (.tmp 60) _ (by rfl) (w.heap.size + 3) 29 i0 _ 3 48 Tryz.underlying27 hi0 hz0 hz1 hz2 rfl (by omega) _ p _ (by rfl) HOWN8.out _ 1 1 _ (by rfl) HSB.out HX3.out HM1.out HM2.out HM3.out ?_; intro A8 c8 w9 hown9 hg9 hat9) | (refine step_append_src _ (by rfl) (.tmp 61) (.tmp 62) _ (by rfl) (w.heap.size + 3) 29 i0 _ 3 48 Tryz.underlying27 hi0 hz0 hz1 hz2 rfl (by omega) _ (p + 1) _ (by rfl) hown9 _ (j - p) c7 _ (by rfl) ((HSRC7.out.later HB8.out).grown hg9 (by rw [HOB.out]; exact HNE.out)) HONE.out HM4.out HM5.out (Nat.le_trans HM3.out hg9.size) ?_; intro A10 c10 w10 hown10 hg10 hat10; have hb10 := ((HBZ7.out.later HB8.out).grown hg9 (by rw [HOB.out]; exact HN5.out)).grown hg10 (by rw [HOB8.out A8]; exact HN8.out A8 _ _ hat9); have c10' := hb10.cells.2.2; have f10 := hb10.free.2.2))
                all_goals
                  have hfin := HFIN.out A8 A10 _ _ _ w9 w10 hg9 hat9 hg10 hat10 hown10
                  have HF := Lib.hid hfin
                  clear hfin hg9 hat9 hg10 hat10 hown10 hown9 hb10 c10' f10 y2 t0 t1 t2 d1
                  go_wp2_with fail
                  go_roundw
                  case rel => exact ⟨j + 1, HLT.out, by go_num, HF.out⟩
                  case measure => have := HLT.out; simp [intOf]; omega
        · obtain rfl : j = ks.length := by omega
          rw [List.take_of_length_le (by rw [HKL.out]; omega)] at hat
          obtain ⟨kv, bx, by', bz, hrow, hbw, hsz⟩ := hat
          have hLl : (T.ordL k KS).length = ks.length := by unfold T.ordL; split <;> (try rw [T.length_isort]) <;> exact HKL.out
          obtain ⟨x0, x1, x2⟩ := bx.cells
          obtain ⟨y0, y1, y2⟩ := by'.cells
          obtain ⟨f0, f1, f2⟩ := by'.free
          obtain ⟨z0, z1, z2⟩ := bz.cells
          obtain ⟨A4, C4, hkv, _, _⟩ := hrow.shape
          have HN := Lib.hid (show (T.mk k s ks).norm = .mk k s (T.ordL k KS) by rw [T.ordL_norm, HKS.out])
          have HTM := Lib.hid ((hrow.term k s h1 h2).keep (w' := wo) (S' := from_ (w.heap.size + 1 + 1)) fun b hb _ => ⟨by have := of_decide_eq_true hb; exact decide_eq_true (by omega), rfl⟩)
          have HBW := Lib.hid hbw; have HBY := Lib.hid by'; have HLL := Lib.hid hLl
          rw [hkv] at z2 HTM
          rw [hLl] at z2 HTM
          clear hkv hrow hbw bx by' bz hLl hlt
          go_wp2_with fail
          obtain ⟨d0, d1, d2⟩ := (box_set3 HBY.out (.int .i64 k) (.string s) (.slice A4 ks.length C4)).cells
          refine bodyPost_ret (v := .agg #[.int .i64 k, .string s, .slice A4 ks.length C4]) (by simp [results, Tryz.results95, go_sem, d0, d1, d2]) rfl ?_
          rw [HN.out]
          exact ret_set3 (t := .mk k s (T.ordL k KS)) _ _ _ HBW.out (by omega) rfl rfl (by show _ = Value.slice _ (T.ordL k KS).length _; rw [HLL.out]) HTM.out
end Go.Proofs.YtihbmgkbipeakaaGreat
