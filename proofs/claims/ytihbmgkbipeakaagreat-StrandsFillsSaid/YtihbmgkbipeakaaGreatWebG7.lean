/- Several texts in one: TermPKids, TermPFn, TermPTerm. -/
import Derived.Test.YtihbmgkbipeakaaGreatWebG6
import Derived.Deep.CutRange
namespace Go.Proofs.YtihbmgkbipeakaaGreat
open Go.RowKit

namespace T
def pre (acc : List T) : Option (Except Nat (List T × Nat)) → Option (Except Nat (List T × Nat))
  | none => none
  | some (.error e) => some (.error e)
  | some (.ok (ks, j)) => some (.ok (acc ++ ks, j))
theorem pre_nil (r : Option (Except Nat (List T × Nat))) : pre [] r = r := by rcases r with _ | _ | ⟨ks, j⟩ <;> rfl
theorem pre_more (acc : List T) (t : T) (r : Option (Except Nat (List T × Nat))) : pre acc (more t r) = pre (acc ++ [t]) r := by
  rcases r with _ | _ | ⟨ks, j⟩
  · rfl
  · rfl
  · simp [pre, more]
end T
/-- What term leaves. -/
def TermPost (ty : TypeId) (g : Nat) (s : ByteArray) (w : World) (r : Except Nat (T × Nat)) (e : Ending) (w' : World) : Prop :=
  w.grownBy w' (some g) ∧ (match r with
    | .ok (t, j) => PBox ty w' g s j false ∧ ∃ A cap, e = .returned (.agg #[.int .i64 t.kind, .string t.name, .slice A t.kids.length cap]) ∧ TermIn (from_ w.heap.size) w' (.agg #[.int .i64 t.kind, .string t.name, .slice A t.kids.length cap]) t
    | .error j => PBox ty w' g s j true ∧ ∃ (k : Int) (nm : ByteArray) (A : Option Addr) (n cap : Nat), e = .returned (.agg #[.int .i64 k, .string nm, .slice A n cap]))
/-- What kids leaves. -/
def KidsPost (ty : TypeId) (g : Nat) (s : ByteArray) (w : World) (r : Except Nat (List T × Nat)) (e : Ending) (w' : World) : Prop :=
  w.grownBy w' (some g) ∧ (match r with
    | .ok (ks, j) => PBox ty w' g s j false ∧ ∃ v, e = .returned v ∧ TermsRow w' w.heap.size v ks
    | .error j => PBox ty w' g s j true ∧ ∃ (A : Option Addr) (n cap : Nat), e = .returned (.slice A n cap))
theorem onow_lit (ci : Int) (c : UInt8) (hc : ci = (c.toNat : Int)) (g i : Nat) (s : ByteArray) (w : World) (h : PBox 152 w g s i false) (hi : i ≤ 4096) (r : Bool) (hr : T.now s.data.toList i c = r) :
    Calls Tryz.prog 179 #[.pointer (some ⟨g, 0, none⟩), .int .u8 ci] w fun e w' => e = .returned (.bool r) ∧ ∃ n, w' = w.drewN n := by
  subst hc; exact onow g i s c w h hi r hr
/-- The head of the loop of kids. -/
def KidsAt (ty : TypeId) (g : Nat) (s : ByteArray) (n : Nat) (r : Except Nat (List T × Nat)) (w : World) (fuel : Nat) (v5 : Value) (wr : World) : Prop :=
  (∃ (m : Nat) (acc : List T), some r = T.pre acc (T.pkids s.data.toList fuel n acc.length m) ∧ TermsRow wr w.heap.size v5 acc ∧ PBox ty wr g s m false ∧ m ≤ s.size ∧ acc.length + fuel ≤ 9000 ∧ w.grownBy wr (some g)) ∨
  (∃ (m : Nat) (A : Option Addr) (k cap : Nat), r = .error m ∧ v5 = .slice A k cap ∧ PBox ty wr g s m true ∧ w.grownBy wr (some g))
theorem grown_trans2 {w w1 w2 : World} {g : Nat} {row : Option Nat} (h : w.grownBy w1 (some g)) (k : w1.grownBy w2 row) (hr : ∀ b, row = some b → w.heap.size ≤ b) : w.grownBy w2 (some g) :=
  ⟨k.os.trans h.os, k.tape.trans h.tape, k.output.trans h.output, Nat.le_trans h.size k.size, fun i hi hn => by
    rw [k.block i (Nat.lt_of_lt_of_le hi h.size) (fun e => by have := hr i e.symm; omega)]; exact h.block i hi hn⟩
theorem grown_below2 {w w1 w2 : World} {g : Nat} (h : w.grownBy w1 (some g)) (k : Below w1.heap.size w1 w2) : w.grownBy w2 (some g) :=
  grownBy_trans h (grownBy_of_below _ k)
theorem TermsRow.step {w w1 w2 : World} {g : Nat} {v : Value} {L : List T} (h : TermsRow w1 w.heap.size v L) (hg : g < w.heap.size) (k : w1.grownBy w2 (some g)) : TermsRow w2 w.heap.size v L :=
  h.keep fun b hb hl => k.block b hl (fun e => by injection e with e; omega)

set_option maxRecDepth 100000 in
set_option maxHeartbeats 4000000 in
theorem okids (f : Nat) (hf : f ≤ 8999) (ht : ∀ f', f' ≤ f → ∀ (g i : Nat) (s : ByteArray) (w : World) (r : Except Nat (T × Nat)), PBox 152 w g s i false → i ≤ s.size → s.size ≤ 4096 → T.pterm s.data.toList f' i = some r →
      Calls Tryz.prog 141 #[.pointer (some ⟨g, 0, none⟩)] w (TermPost 152 g s w r))
    (g i n : Nat) (s : ByteArray) (w : World) (r : Except Nat (List T × Nat)) (h : PBox 152 w g s i false) (hi : i ≤ s.size) (hs : s.size ≤ 4096) (hn : n ≤ 2) (hr : T.pkids s.data.toList (f + 1) n 0 i = some r) :
    Calls Tryz.prog 181 #[.pointer (some ⟨g, 0, none⟩), .int .i64 n] w (KidsPost 152 g s w r) := by
  have hglt := h.lt
  obtain ⟨i0, hi0, hz0, hz1, hz2⟩ := info_parts Tryz.infoT
  have HST := Lib.hid (show KidsAt 152 g s n r w (f + 1) (.slice none 0 0) w from .inl ⟨i, [], by rw [T.pre_nil]; exact hr.symm, TermsRow.nil _ _, h, hi, by simp; omega, grown_refl _ _⟩)
  have HT := Lib.hid ht
  have HGL := Lib.hid hglt
  clear h hr ht hglt
  go_enter Tryz.func181, Tryz.ntmps181
  go_wp2_with fail
  go_loopg [5] (f + 1) (fun fuel v5 wr => ∃ v, v = v5 ∧ (KidsAt 152 g s n r w fuel v wr ∧ (0 < fuel ∨ ∃ m, r = .error m)) ∧ fuel ≤ f + 1)
  case atStart => exact ⟨_, rfl, ⟨HST.out, .inl (by omega)⟩, Nat.le_refl _⟩
  case round =>
    obtain ⟨lv, rfl, ⟨hat, _⟩, hfu⟩ := hrel
    rcases hat with ⟨m, acc, hreq, hrow, hp, hm, hcf, hg⟩ | ⟨m, A, k, cap, rfl, rfl, hp, hg⟩
    · cases gk with
      | zero => simp [T.pkids, T.pre] at hreq
      | succ fu =>
        obtain ⟨x0, x1, x2⟩ := hp.cells
        obtain ⟨rt, hrt⟩ : ∃ rt, T.pterm s.data.toList fu m = some rt := by
          cases h : T.pterm s.data.toList fu m with
          | none => simp [T.pkids, T.pre, h] at hreq
          | some rt => exact ⟨rt, rfl⟩
        simp only [T.pkids, hrt] at hreq
        have HREQ := Lib.hid hreq; have HROW := Lib.hid hrow; have HP := Lib.hid hp; have HG := Lib.hid hg
        have HRT := Lib.hid hrt
        clear hreq hrow hp hg hrt
        go_wp2_with fail
        refine (HT.out fu (by omega) g m s wr rt HP.out hm hs HRT.out).mono ?_
        rintro e w2 ⟨hg2, hres⟩
        have HG2 := Lib.hid hg2
        have hrow2 := HROW.out.step HGL.out hg2
        obtain ⟨A5, C5, hkv, hk1, hk2⟩ := hrow2.shape
        obtain ⟨xs, hown, hct⟩ := hrow2.owns
        have hblk := hrow2.block
        have HROW2 := Lib.hid hrow2; have HOWN := Lib.hid hown; have HCT := Lib.hid hct; have HBLK := Lib.hid hblk
        have HKV := Lib.hid hkv
        have HC1 := Lib.hid (show acc.length + 1 ≤ maxLen by unfold maxLen; omega)
        have HC2 := Lib.hid (show (acc.length + 1) * 48 ≤ 140737488355328 by omega)
        have hz2' := HG.out.size; have hz3' := hg2.size
        clear hg2 hrow2 hkv hk1 hk2 hown hct hblk x0 x1 x2
        rcases rt with e' | ⟨t, j⟩
        · obtain ⟨hp2, k0, nm, A6, n6, c6, rfl⟩ := hres
          have hr' : r = .error e' := by have := HREQ.out; simpa [T.pre] using this
          subst hr'
          have HONE := Lib.hid (show ∀ u ∈ [Value.int .i64 k0, .string nm, .slice A6 n6 c6], u.oneCell' = true from fun u hu => by simp at hu; rcases hu with rfl | rfl | rfl <;> rfl)
          have HOWN3 := Lib.hid (HOWN.out.alloc (.cells #[.int .i64 k0, .string nm, .slice A6 n6 c6] 29))
          have HMS := Lib.hid (show w.heap.size ≤ (w2.alloc (.cells #[.int .i64 k0, .string nm, .slice A6 n6 c6] 29)).heap.size by rw [size_alloc1]; omega)
          have HNE := Lib.hid (show lv.ownBlock ≠ some g from fun e => by have := (HBLK.out g e).1; have := HGL.out; omega)
          have HP3 := Lib.hid (hp2.later (below_alloc1 w2 (.cells #[.int .i64 k0, .string nm, .slice A6 n6 c6] 29)))
          have HG3 := Lib.hid (grown_below2 (grownBy_trans HG.out HG2.out) (below_alloc1 w2 (.cells #[.int .i64 k0, .string nm, .slice A6 n6 c6] 29)))
          clear hp2
          by_cases hn0 : n = 0
          · subst hn0
            go_wp2_with (at_builtin; refine wpList_append_lies _ rfl _ _ 27 rfl w.heap.size 29 i0 _ 3 48 Tryz.underlying27 hi0 hz0 hz1 hz2 rfl (by omega) _ acc.length _ rfl HOWN3.out ⟨w2.heap.size, 0, none⟩ 1 1 _ rfl rfl (World.news_of_block (heap_alloc_new _ _)) HONE.out (by omega) HC1.out HC2.out HMS.out _ rfl ?_; intro g4 cap4 w4 hown4 hg4 hat4 hlt4)
            have HP4 := Lib.hid (HP3.out.grown hg4 HNE.out)
            have HG4 := Lib.hid (grown_trans2 HG3.out hg4 (fun b hb => (HBLK.out b hb).1))
            clear hown4 hg4 hat4 hlt4
            refine (onow_wrong g e' s _ _ HP4.out).mono ?_; rintro e w6 ⟨rfl, nq, rfl⟩
            go_wp2_with fail
            go_ret
            exact ⟨grown_drewN HG4.out nq, HP4.out.drewN nq, _, _, _, rfl⟩
          · by_cases hcn : acc.length + 1 = n
            · have HCN := Lib.hid hcn
              have n1 : (0 : Int) < (n : Int) := by omega
              have n1' : decide ((0 : Int) < (n : Int)) = true := decide_eq_true n1
              have n1'' : decide (0 < n) = true := decide_eq_true (by omega)
              have n2 : ((n : Int) == 0) = false := by rw [beq_eq_false_iff_ne]; omega
              have n3 : ((acc.length : Int) + 1 == (n : Int)) = true := by rw [beq_iff_eq]; omega
              clear hcn hn0
              go_wp2_with (at_builtin; refine wpList_append_lies _ rfl _ _ 27 rfl w.heap.size 29 i0 _ 3 48 Tryz.underlying27 hi0 hz0 hz1 hz2 rfl (by omega) _ acc.length _ rfl HOWN3.out ⟨w2.heap.size, 0, none⟩ 1 1 _ rfl rfl (World.news_of_block (heap_alloc_new _ _)) HONE.out (by omega) HC1.out HC2.out HMS.out _ rfl ?_; intro g4 cap4 w4 hown4 hg4 hat4 hlt4)
              go_ret
              have HP4 := Lib.hid (HP3.out.grown hg4 HNE.out)
              have HG4 := Lib.hid (grown_trans2 HG3.out hg4 (fun b hb => (HBLK.out b hb).1))
              exact ⟨HG4.out, HP4.out, _, _, _, rfl⟩
            · have HCN := Lib.hid hcn
              have n1 : (0 : Int) < (n : Int) := by omega
              have n1' : decide ((0 : Int) < (n : Int)) = true := decide_eq_true n1
              have n1'' : decide (0 < n) = true := decide_eq_true (by omega)
              have n2 : ((n : Int) == 0) = false := by rw [beq_eq_false_iff_ne]; omega
              have n3 : ((acc.length : Int) + 1 == (n : Int)) = false := by rw [beq_eq_false_iff_ne]; omega
              clear hcn hn0
              go_wp2_with (at_builtin; refine wpList_append_lies _ rfl _ _ 27 rfl w.heap.size 29 i0 _ 3 48 Tryz.underlying27 hi0 hz0 hz1 hz2 rfl (by omega) _ acc.length _ rfl HOWN3.out ⟨w2.heap.size, 0, none⟩ 1 1 _ rfl rfl (World.news_of_block (heap_alloc_new _ _)) HONE.out (by omega) HC1.out HC2.out HMS.out _ rfl ?_; intro g4 cap4 w4 hown4 hg4 hat4 hlt4)
              have HP4 := Lib.hid (HP3.out.grown hg4 HNE.out)
              have HG4 := Lib.hid (grown_trans2 HG3.out hg4 (fun b hb => (HBLK.out b hb).1))
              clear hown4 hg4 hat4 hlt4
              refine (oneed_wrong g e' s 44 [32] _ HP4.out).mono ?_; rintro e w6 ⟨rfl, rfl⟩
              go_wp2_with fail
              go_roundg fu
              case measure => omega
              case rel => exact ⟨_, rfl, ⟨.inr ⟨e', _, _, _, rfl, rfl, HP4.out, HG4.out⟩, .inr ⟨e', rfl⟩⟩, by omega⟩
        · obtain ⟨hp2, A6, c6, rfl, hti⟩ := hres
          have hj := ((T.p_ok s.data.toList fu).1 _ _ _ HRT.out).2.1
          have hjs : j ≤ s.size := by simpa using hj
          have HONE := Lib.hid hti.one
          have HLV := Lib.hid (show ∀ b, lv.ownBlock = some b → b < wr.heap.size from fun b hb => (HROW.out.block b hb).2)
          have HOWN3 := Lib.hid (HOWN.out.alloc (.cells #[.int .i64 t.kind, .string t.name, .slice A6 t.kids.length c6] 29))
          have HMS := Lib.hid (show w.heap.size ≤ (w2.alloc (.cells #[.int .i64 t.kind, .string t.name, .slice A6 t.kids.length c6] 29)).heap.size by rw [size_alloc1]; omega)
          have HNE := Lib.hid (show lv.ownBlock ≠ some g from fun e => by have := (HBLK.out g e).1; have := HGL.out; omega)
          have HP3 := Lib.hid (hp2.later (below_alloc1 w2 (.cells #[.int .i64 t.kind, .string t.name, .slice A6 t.kids.length c6] 29)))
          have HG3 := Lib.hid (grown_below2 (grownBy_trans HG.out HG2.out) (below_alloc1 w2 (.cells #[.int .i64 t.kind, .string t.name, .slice A6 t.kids.length c6] 29)))
          clear hp2 hj
          by_cases hend : (0 < n ∧ acc.length + 1 = n) ∨ (n = 0 ∧ T.now s.data.toList j 44 = false)
          · have hr' : r = .ok (acc ++ [t], j) := by have := HREQ.out; dsimp only at this; rw [if_pos hend] at this; simpa [T.pre] using this
            subst hr'
            rcases hend with ⟨hn0, hcn⟩ | ⟨hn0, hnow⟩
            · have HCN := Lib.hid hcn
              have n1 : (0 : Int) < (n : Int) := by omega
              have n1' : decide ((0 : Int) < (n : Int)) = true := decide_eq_true n1
              have n1'' : decide (0 < n) = true := decide_eq_true (by omega)
              have n2 : ((n : Int) == 0) = false := by rw [beq_eq_false_iff_ne]; omega
              have n3 : ((acc.length : Int) + 1 == (n : Int)) = true := by rw [beq_iff_eq]; omega
              clear hcn hn0
              go_wp2_with (at_builtin; refine wpList_append_lies _ rfl _ _ 27 rfl w.heap.size 29 i0 _ 3 48 Tryz.underlying27 hi0 hz0 hz1 hz2 rfl (by omega) _ acc.length _ rfl HOWN3.out ⟨w2.heap.size, 0, none⟩ 1 1 _ rfl rfl (World.news_of_block (heap_alloc_new _ _)) HONE.out (by omega) HC1.out HC2.out HMS.out _ rfl ?_; intro g4 cap4 w4 hown4 hg4 hat4 hlt4)
              go_ret
              have HP4 := Lib.hid (HP3.out.grown hg4 HNE.out)
              have HG4 := Lib.hid (grown_trans2 HG3.out hg4 (fun b hb => (HBLK.out b hb).1))
              have HROW4 := Lib.hid (TermsRow.snoc (w := w2.alloc (.cells #[.int .i64 t.kind, .string t.name, .slice A6 t.kids.length c6] 29)) (H := w2.heap.size + 1) (t := t) (fun i hi => by
                  obtain ⟨a0, a1, a2, b0, b1, b2, b3⟩ := HCT.out i hi
                  exact ⟨a0, a1, a2, b0, b1, b2, b3.keep fun b hb hl => ⟨hb, Below.heap_alloc _ _ b hl⟩⟩) HOWN.out.1
                (hti.keep fun b hb hl => ⟨but_iff.2 ⟨by have := of_decide_eq_true hb; have := HG.out.size; omega, fun e => by have := HLV.out b e; have := of_decide_eq_true hb; omega⟩, Below.heap_alloc _ _ b hl⟩) hown4 hg4 (hat4.imp id fun h => h.trans (size_alloc1 _ _)) (size_alloc1 _ _))
              exact ⟨HG4.out, HP4.out, _, rfl, HROW4.out⟩
            · subst hn0
              have HNOW := Lib.hid hnow; clear hnow
              go_wp2_with (at_builtin; refine wpList_append_lies _ rfl _ _ 27 rfl w.heap.size 29 i0 _ 3 48 Tryz.underlying27 hi0 hz0 hz1 hz2 rfl (by omega) _ acc.length _ rfl HOWN3.out ⟨w2.heap.size, 0, none⟩ 1 1 _ rfl rfl (World.news_of_block (heap_alloc_new _ _)) HONE.out (by omega) HC1.out HC2.out HMS.out _ rfl ?_; intro g4 cap4 w4 hown4 hg4 hat4 hlt4)
              have HP4 := Lib.hid (HP3.out.grown hg4 HNE.out)
              have HG4 := Lib.hid (grown_trans2 HG3.out hg4 (fun b hb => (HBLK.out b hb).1))
              have HROW4 := Lib.hid (TermsRow.snoc (w := w2.alloc (.cells #[.int .i64 t.kind, .string t.name, .slice A6 t.kids.length c6] 29)) (H := w2.heap.size + 1) (t := t) (fun i hi => by
                  obtain ⟨a0, a1, a2, b0, b1, b2, b3⟩ := HCT.out i hi
                  exact ⟨a0, a1, a2, b0, b1, b2, b3.keep fun b hb hl => ⟨hb, Below.heap_alloc _ _ b hl⟩⟩) HOWN.out.1
                (hti.keep fun b hb hl => ⟨but_iff.2 ⟨by have := of_decide_eq_true hb; have := HG.out.size; omega, fun e => by have := HLV.out b e; have := of_decide_eq_true hb; omega⟩, Below.heap_alloc _ _ b hl⟩) hown4 hg4 (hat4.imp id fun h => h.trans (size_alloc1 _ _)) (size_alloc1 _ _))
              clear hown4 hg4 hat4 hlt4
              refine (onow_lit 44 44 (by decide) g j s _ HP4.out (by omega) _ HNOW.out).mono ?_; rintro e w6 ⟨rfl, nq, rfl⟩
              go_wp2_with fail
              go_ret
              exact ⟨grown_drewN HG4.out nq, HP4.out.drewN nq, _, rfl, HROW4.out.keep fun _ _ _ => rfl⟩
          · have hreq2 : some r = T.pre acc (match T.need s.data.toList [44, 32] j with
                | .error e => some (.error e)
                | .ok j' => T.more t (T.pkids s.data.toList fu n (acc.length + 1) j')) := by
              have := HREQ.out
              dsimp only at this
              rw [if_neg hend] at this
              exact this
            have hwalk : ∀ (W : World), PBox 152 W g s j false → Calls Tryz.prog 180 #[.pointer (some ⟨g, 0, none⟩), .string ⟨#[44, 32]⟩] W fun e w' => e = .returned (.tuple #[]) ∧ W.grownBy w' (some g) ∧ Stands 152 w' g s (T.need s.data.toList [44, 32] j) := fun W hW => oneed g j s ⟨#[44, 32]⟩ W hW (by omega) hs (by decide)
            have HWALK := Lib.hid hwalk; have HREQ2 := Lib.hid hreq2
            clear hreq2 hwalk
            have hfin : ∀ (v : Value) (w6 w8 : World), TermsRow w6 w.heap.size v (acc ++ [t]) → w.grownBy w6 (some g) → w6.grownBy w8 (some g) → Stands 152 w8 g s (T.need s.data.toList [44, 32] j) →
                (KidsAt 152 g s n r w fu v w8 ∧ (0 < fu ∨ ∃ m, r = .error m)) := fun v w6 w8 hr6 hg6 hg8 hst => by
              have hq := HREQ2.out
              have hrow8 := hr6.step HGL.out hg8
              cases hne : T.need s.data.toList [44, 32] j with
              | error e' =>
                rw [hne] at hq hst
                have : r = .error e' := by simpa [T.pre] using hq
                obtain ⟨A9, C9, hv9, _, _⟩ := hrow8.shape
                exact ⟨.inr ⟨e', A9, _, C9, this, hv9, hst, grownBy_trans hg6 hg8⟩, .inr ⟨e', this⟩⟩
              | ok j' =>
                rw [hne] at hq hst
                have hj' := (T.need_ok _ _ _ hne).2 (by simp)
                refine ⟨.inl ⟨j', acc ++ [t], ?_, hrow8, hst, by simpa using hj', by simp; omega, grownBy_trans hg6 hg8⟩, ?_⟩
                · rw [hq, ← T.pre_more]; simp
                · cases fu with
                  | zero => simp [T.pkids, T.more, T.pre] at hq
                  | succ q => left; omega
            have HFIN := Lib.hid hfin; clear hfin
            by_cases hn0 : n = 0
            · subst hn0
              have hnow : T.now s.data.toList j 44 = true := by
                rcases Bool.eq_false_or_eq_true (T.now s.data.toList j 44) with h | h
                · exact h
                · exact absurd (.inr ⟨rfl, h⟩) hend
              have HNOW := Lib.hid hnow; clear hnow hend
              go_wp2_with (at_builtin; refine wpList_append_lies _ rfl _ _ 27 rfl w.heap.size 29 i0 _ 3 48 Tryz.underlying27 hi0 hz0 hz1 hz2 rfl (by omega) _ acc.length _ rfl HOWN3.out ⟨w2.heap.size, 0, none⟩ 1 1 _ rfl rfl (World.news_of_block (heap_alloc_new _ _)) HONE.out (by omega) HC1.out HC2.out HMS.out _ rfl ?_; intro g4 cap4 w4 hown4 hg4 hat4 hlt4)
              have HP4 := Lib.hid (HP3.out.grown hg4 HNE.out)
              have HG4 := Lib.hid (grown_trans2 HG3.out hg4 (fun b hb => (HBLK.out b hb).1))
              have HROW4 := Lib.hid (TermsRow.snoc (w := w2.alloc (.cells #[.int .i64 t.kind, .string t.name, .slice A6 t.kids.length c6] 29)) (H := w2.heap.size + 1) (t := t) (fun i hi => by
                  obtain ⟨a0, a1, a2, b0, b1, b2, b3⟩ := HCT.out i hi
                  exact ⟨a0, a1, a2, b0, b1, b2, b3.keep fun b hb hl => ⟨hb, Below.heap_alloc _ _ b hl⟩⟩) HOWN.out.1
                (hti.keep fun b hb hl => ⟨but_iff.2 ⟨by have := of_decide_eq_true hb; have := HG.out.size; omega, fun e => by have := HLV.out b e; have := of_decide_eq_true hb; omega⟩, Below.heap_alloc _ _ b hl⟩) hown4 hg4 (hat4.imp id fun h => h.trans (size_alloc1 _ _)) (size_alloc1 _ _))
              clear hown4 hg4 hat4 hlt4
              refine (onow_lit 44 44 (by decide) g j s _ HP4.out (by omega) _ HNOW.out).mono ?_; rintro e w6 ⟨rfl, nq, rfl⟩
              go_wp2_with fail
              refine (HWALK.out _ (HP4.out.drewN nq)).mono ?_; rintro e w8 ⟨rfl, hg8, hst8⟩
              have HF := Lib.hid (HFIN.out _ _ w8 (HROW4.out.keep (w' := w4.drewN nq) fun _ _ _ => rfl) (grown_drewN HG4.out nq) hg8 hst8)
              clear hg8 hst8
              go_wp2_with fail
              go_roundg fu
              case measure => omega
              case rel => exact ⟨_, rfl, HF.out, by omega⟩
            · have hcn : acc.length + 1 ≠ n := fun h => hend (.inl ⟨by omega, h⟩)
              have n1 : (0 : Int) < (n : Int) := by omega
              have n1' : decide ((0 : Int) < (n : Int)) = true := decide_eq_true n1
              have n1'' : decide (0 < n) = true := decide_eq_true (by omega)
              have n2 : ((n : Int) == 0) = false := by rw [beq_eq_false_iff_ne]; omega
              have n3 : ((acc.length : Int) + 1 == (n : Int)) = false := by rw [beq_eq_false_iff_ne]; omega
              clear hcn hn0 hend
              go_wp2_with (at_builtin; refine wpList_append_lies _ rfl _ _ 27 rfl w.heap.size 29 i0 _ 3 48 Tryz.underlying27 hi0 hz0 hz1 hz2 rfl (by omega) _ acc.length _ rfl HOWN3.out ⟨w2.heap.size, 0, none⟩ 1 1 _ rfl rfl (World.news_of_block (heap_alloc_new _ _)) HONE.out (by omega) HC1.out HC2.out HMS.out _ rfl ?_; intro g4 cap4 w4 hown4 hg4 hat4 hlt4)
              have HP4 := Lib.hid (HP3.out.grown hg4 HNE.out)
              have HG4 := Lib.hid (grown_trans2 HG3.out hg4 (fun b hb => (HBLK.out b hb).1))
              have HROW4 := Lib.hid (TermsRow.snoc (w := w2.alloc (.cells #[.int .i64 t.kind, .string t.name, .slice A6 t.kids.length c6] 29)) (H := w2.heap.size + 1) (t := t) (fun i hi => by
                  obtain ⟨a0, a1, a2, b0, b1, b2, b3⟩ := HCT.out i hi
                  exact ⟨a0, a1, a2, b0, b1, b2, b3.keep fun b hb hl => ⟨hb, Below.heap_alloc _ _ b hl⟩⟩) HOWN.out.1
                (hti.keep fun b hb hl => ⟨but_iff.2 ⟨by have := of_decide_eq_true hb; have := HG.out.size; omega, fun e => by have := HLV.out b e; have := of_decide_eq_true hb; omega⟩, Below.heap_alloc _ _ b hl⟩) hown4 hg4 (hat4.imp id fun h => h.trans (size_alloc1 _ _)) (size_alloc1 _ _))
              clear hown4 hg4 hat4 hlt4
              refine (HWALK.out _ HP4.out).mono ?_; rintro e w8 ⟨rfl, hg8, hst8⟩
              have HF := Lib.hid (HFIN.out _ _ w8 HROW4.out HG4.out hg8 hst8)
              clear hg8 hst8
              go_wp2_with fail
              go_roundg fu
              case measure => omega
              case rel => exact ⟨_, rfl, HF.out, by omega⟩
    · obtain ⟨x0, x1, x2⟩ := hp.cells
      have HP := Lib.hid hp; have HG := Lib.hid hg
      clear hp hg
      go_wp2_with fail
      go_ret
      exact ⟨HG.out, HP.out, _, _, _, rfl⟩
end Go.Proofs.YtihbmgkbipeakaaGreat

namespace Go.Proofs.YtihbmgkbipeakaaGreat
open Go.RowKit

theorem str_lit_ne {s : ByteArray} {l : List UInt8} (h : s ≠ ⟨l.toArray⟩) : (s.toList == l) = false := by
  rw [beq_eq_false_iff_ne]; intro e; apply h
  apply str_eq; rw [← ByteArray.toList_eq, e]

set_option maxHeartbeats 1000000 in
theorem ofn (s : ByteArray) (w : World) : Calls Tryz.prog 183 #[.string s] w fun e w' => e = .returned (.tuple #[.int .i64 (T.fnKind s), .int .i64 (T.fnKids s)]) ∧ w = w' := by
  by_cases h1 : s = ⟨#[104, 97, 115, 104]⟩
  · subst h1
    go_enter Tryz.func183, Tryz.ntmps183
    go_wp2
    go_ret2
    exact ⟨rfl, rfl⟩
  by_cases h2 : s = ⟨#[115, 101, 97, 108]⟩
  · subst h2
    go_enter Tryz.func183, Tryz.ntmps183
    go_wp2
    go_ret2
    exact ⟨rfl, rfl⟩
  by_cases h3 : s = ⟨#[115, 105, 103, 110]⟩
  · subst h3
    go_enter Tryz.func183, Tryz.ntmps183
    go_wp2
    go_ret2
    exact ⟨rfl, rfl⟩
  by_cases h4 : s = ⟨#[112, 111, 119, 101, 114]⟩
  · subst h4
    go_enter Tryz.func183, Tryz.ntmps183
    go_wp2
    go_ret2
    exact ⟨rfl, rfl⟩
  have E := Lib.hid (show T.fnKind s = 0 ∧ T.fnKids s = 0 by unfold T.fnKind T.fnKids; simp [h1, h2, h3, h4])
  have g1 : (s.toList == [104, 97, 115, 104]) = false := str_lit_ne h1
  have g2 : (s.toList == [115, 101, 97, 108]) = false := str_lit_ne h2
  have g3 : (s.toList == [115, 105, 103, 110]) = false := str_lit_ne h3
  have g4 : (s.toList == [112, 111, 119, 101, 114]) = false := str_lit_ne h4
  clear h1 h2 h3 h4
  go_enter Tryz.func183, Tryz.ntmps183
  go_wp2
  go_ret2
  exact ⟨by rw [E.out.1, E.out.2]; rfl, rfl⟩

set_option maxHeartbeats 1000000 in
theorem rfn (s : ByteArray) (w : World) : Calls Tryz.prog 153 #[.string s] w fun e w' => e = .returned (.tuple #[.int .i64 (T.fnKind s), .int .i64 (T.fnKids s)]) ∧ w = w' := by
  by_cases h1 : s = ⟨#[104, 97, 115, 104]⟩
  · subst h1
    go_enter Tryz.func153, Tryz.ntmps153
    go_wp2
    go_ret2
    exact ⟨rfl, rfl⟩
  by_cases h2 : s = ⟨#[115, 101, 97, 108]⟩
  · subst h2
    go_enter Tryz.func153, Tryz.ntmps153
    go_wp2
    go_ret2
    exact ⟨rfl, rfl⟩
  by_cases h3 : s = ⟨#[115, 105, 103, 110]⟩
  · subst h3
    go_enter Tryz.func153, Tryz.ntmps153
    go_wp2
    go_ret2
    exact ⟨rfl, rfl⟩
  by_cases h4 : s = ⟨#[112, 111, 119, 101, 114]⟩
  · subst h4
    go_enter Tryz.func153, Tryz.ntmps153
    go_wp2
    go_ret2
    exact ⟨rfl, rfl⟩
  have E := Lib.hid (show T.fnKind s = 0 ∧ T.fnKids s = 0 by unfold T.fnKind T.fnKids; simp [h1, h2, h3, h4])
  have g1 : (s.toList == [104, 97, 115, 104]) = false := str_lit_ne h1
  have g2 : (s.toList == [115, 101, 97, 108]) = false := str_lit_ne h2
  have g3 : (s.toList == [115, 105, 103, 110]) = false := str_lit_ne h3
  have g4 : (s.toList == [112, 111, 119, 101, 114]) = false := str_lit_ne h4
  clear h1 h2 h3 h4
  go_enter Tryz.func153, Tryz.ntmps153
  go_wp2
  go_ret2
  exact ⟨by rw [E.out.1, E.out.2]; rfl, rfl⟩
end Go.Proofs.YtihbmgkbipeakaaGreat

namespace Go.Proofs.YtihbmgkbipeakaaGreat
open Go.RowKit

theorem below_set3 (W : World) (g : Nat) (x y z : Value) : Below g W (((W.setCell ⟨g, 0, none⟩ x).setCell ⟨g, 1, none⟩ y).setCell ⟨g, 2, none⟩ z) :=
  (((Below.refl g W).setCell (p := ⟨g, 0, none⟩) (Nat.le_refl _) _).setCell (p := ⟨g, 1, none⟩) (Nat.le_refl _) _).setCell (p := ⟨g, 2, none⟩) (Nat.le_refl _) _
/-- A reader beside the zero block of a result. -/
def PSt (ty : TypeId) (w : World) (g : Nat) (s : ByteArray) (W : World) (j : Nat) (b : Bool) : Prop :=
  PBox ty W g s j b ∧ Box W w.heap.size (.int .i64 0) (.string ⟨#[]⟩) (.slice none 0 0) ∧ w.grownBy W (some g) ∧ w.heap.size + 1 ≤ W.heap.size
section
variable {ty : TypeId} {w W W' : World} {g j j' : Nat} {s : ByteArray} {b b' : Bool}
theorem PSt.step (h : PSt ty w g s W j b) (hg : g < w.heap.size) (k : W.grownBy W' (some g)) (hp : PBox ty W' g s j' b') : PSt ty w g s W' j' b' :=
  ⟨hp, h.2.1.grown k (fun e => by injection e; omega), grownBy_trans h.2.2.1 k, Nat.le_trans h.2.2.2 k.size⟩
theorem PSt.later (h : PSt ty w g s W j b) (k : Below W.heap.size W W') : PSt ty w g s W' j b :=
  ⟨h.1.later k, h.2.1.later k, grown_below2 h.2.2.1 k, Nat.le_trans h.2.2.2 k.size⟩
theorem PSt.drewN (h : PSt ty w g s W j b) (n : Nat) : PSt ty w g s (W.drewN n) j b := ⟨h.1.drewN n, h.2.1, grown_drewN h.2.2.1 n, h.2.2.2⟩
theorem PSt.start (h : PBox ty w g s j b) : PSt ty w g s (w.alloc (.cells #[.int .i64 0, .string ⟨#[]⟩, .slice none 0 0] 29)) j b :=
  ⟨h.later (below_alloc1 _ _), Box.new _ _ _ _, grown_below2 (grown_refl _ _) (below_alloc1 _ _), by rw [size_alloc1]; omega⟩
/-- What is known of the value that is to be returned. -/
def TermVal (ty : TypeId) (w : World) (g : Nat) (s : ByteArray) (W : World) (x y z : Value) : Except Nat (T × Nat) → Prop
  | .ok (t, j) => PBox ty W g s j false ∧ ∃ A cap, x = .int .i64 t.kind ∧ y = .string t.name ∧ z = .slice A t.kids.length cap ∧ TermIn (from_ (w.heap.size + 1)) W (.agg #[x, y, z]) t
  | .error j => PBox ty W g s j true ∧ ∃ (k : Int) (nm : ByteArray) (A : Option Addr) (n cap : Nat), x = .int .i64 k ∧ y = .string nm ∧ z = .slice A n cap
theorem PSt.ends {x y z : Value} {r : Except Nat (T × Nat)} (h : PSt ty w g s W j b) (hg : g < w.heap.size) (hv : TermVal ty w g s W x y z r) :
    TermPost ty g s w r (.returned (.agg #[x, y, z])) (((W.setCell ⟨w.heap.size, 0, none⟩ x).setCell ⟨w.heap.size, 1, none⟩ y).setCell ⟨w.heap.size, 2, none⟩ z) := by
  have hp : ∀ {j b}, PBox ty W g s j b → PBox ty (((W.setCell ⟨w.heap.size, 0, none⟩ x).setCell ⟨w.heap.size, 1, none⟩ y).setCell ⟨w.heap.size, 2, none⟩ z) g s j b := fun hp => (set3_other _ _ _ _ _ _ (by omega)).trans hp
  have hb := below_set3 W w.heap.size x y z
  refine ⟨⟨hb.os.trans h.2.2.1.os, hb.tape.trans h.2.2.1.tape, hb.output.trans h.2.2.1.output, Nat.le_trans h.2.2.1.size hb.size, fun k hk hn => (hb.block k hk).trans (h.2.2.1.block k hk hn)⟩, ?_⟩
  rcases r with e | ⟨t, j'⟩
  · obtain ⟨h1, k, nm, A, n, cap, rfl, rfl, rfl⟩ := hv
    exact ⟨hp h1, k, nm, A, n, cap, rfl⟩
  · obtain ⟨h1, A, cap, rfl, rfl, rfl, h2⟩ := hv
    refine ⟨hp h1, A, cap, rfl, h2.keep fun b hb _ => ?_⟩
    have := of_decide_eq_true hb
    exact ⟨decide_eq_true (by omega), set3_other _ _ _ _ _ _ (by omega)⟩
end
theorem atom_in (S : Nat → Bool) (W : World) (k : Int) (nm : ByteArray) (hk : -9223372036854775808 ≤ k ∧ k ≤ 9223372036854775807) (hs : nm.size ≤ maxLen) : TermIn S W (.agg #[.int .i64 k, .string nm, .slice none 0 0]) (.mk k nm []) :=
  TermAt.mk k nm none 0 [] (fun _ => (undef, undef, undef)) hk hs (Nat.le_refl _) (Nat.zero_le _) (.inl rfl) (fun i h => by simp at h)
theorem T.nameStr_le (l : List UInt8) (i : Nat) : (T.nameStr l i (T.nameEnd l i)).size ≤ 16 := by
  have := (T.nameEnd_le l i).2.1
  unfold T.nameStr; rw [strOf_size, List.length_take]; omega
theorem T.need_now {l : List UInt8} {i : Nat} {c : UInt8} (h : T.now l i c = true) : T.need l [c] i = .ok (i + 1) := by simp [T.need, h]
theorem T.fnKind_range (s : ByteArray) : 0 ≤ T.fnKind s ∧ T.fnKind s ≤ 7 := by
  unfold T.fnKind; repeat' split
  all_goals omega
theorem T.fnKids_range (s : ByteArray) : T.fnKids s ≤ 2 := by
  unfold T.fnKids; repeat' split
  all_goals omega

set_option maxRecDepth 100000 in
set_option maxHeartbeats 4000000 in
theorem oterm : ∀ (f : Nat), f ≤ 8999 → ∀ (g i : Nat) (s : ByteArray) (w : World) (r : Except Nat (T × Nat)), PBox 152 w g s i false → i ≤ s.size → s.size ≤ 4096 → T.pterm s.data.toList f i = some r →
      Calls Tryz.prog 141 #[.pointer (some ⟨g, 0, none⟩)] w (TermPost 152 g s w r) := by
  intro f
  induction f using Nat.strongRecOn with
  | _ f ih =>
  intro hf g i s w r hp hi hs hr
  cases f with
  | zero => cases hr
  | succ f =>
  have hst1 := PSt.start hp
  have HGL := Lib.hid hp.lt
  have HIH := Lib.hid (fun f' (h : f' < f + 1) => ih f' h (by omega))
  clear hp ih
  simp only [T.pterm] at hr
  go_enter Tryz.func141, Tryz.ntmps141
  go_upto_region 1 with fail
  generalize w.alloc (.cells #[.int .i64 0, .string ⟨#[]⟩, .slice none 0 0] 29) = w1 at hst1 ⊢
  obtain ⟨x0, x1, x2⟩ := hst1.1.cells
  have HST1 := Lib.hid hst1
  clear hst1
  rcases Bool.eq_false_or_eq_true (T.now s.data.toList i 60) with h60 | h60
  · rw [if_pos h60] at hr
    have H60 := Lib.hid h60
    have HR := Lib.hid hr
    clear h60 hr
    go_wp2_with fail
    refine (onow_lit 60 60 (by decide) g i s _ HST1.out.1 (by omega) _ H60.out).mono ?_; rintro e w2 ⟨rfl, nq, rfl⟩
    go_wp2_with fail
    refine (oneed g i s ⟨#[60]⟩ _ (HST1.out.1.drewN nq) (by omega) hs (by decide)).mono ?_; rintro e w3 ⟨rfl, hg3, hs3⟩
    have hst3 := (HST1.out.drewN nq).step HGL.out hg3 (j' := i + 1) (b' := false) (by have h := hs3; rw [show (⟨#[60]⟩ : ByteArray).data.toList = [60] from rfl, T.need_now H60.out] at h; exact h)
    have HST3 := Lib.hid hst3
    clear hg3 hs3 hst3 x0 x1 x2
    have HIL := Lib.hid (show i + 1 ≤ s.size by have h := T.now_lt H60.out; have h2 := T.size_len s; omega)
    obtain ⟨f', hf', rk, hrk⟩ : ∃ f', f = f' + 1 ∧ ∃ rk, T.pkids s.data.toList (f' + 1) 2 0 (i + 1) = some rk := by
      have h := HR.out
      cases f with
      | zero => simp [T.pkids, T.close] at h
      | succ f' =>
        cases h2 : T.pkids s.data.toList (f' + 1) 2 0 (i + 1) with
        | none => rw [h2] at h; simp [T.close] at h
        | some rk => exact ⟨f', rfl, rk, h2⟩
    subst hf'
    have HRK := Lib.hid hrk
    have hreq : some r = T.close s.data.toList 3 62 (some rk) := by have h := HR.out; rw [hrk] at h; exact h.symm
    have HREQ := Lib.hid hreq
    clear hrk hreq
    go_wp2_with fail
    refine (okids f' (by omega) (fun f'' hf'' => HIH.out f'' (by omega)) g (i + 1) 2 s _ rk HST3.out.1 HIL.out hs (by decide) HRK.out).mono ?_; rintro e w4 ⟨hg4, hk4⟩
    rcases rk with e4 | ⟨ks, j4⟩
    · obtain ⟨hp4, A4, n4, c4, rfl⟩ := hk4
      have hr' : r = .error e4 := by have := HREQ.out; simpa [T.close] using this
      subst hr'
      have hst5 := (HST3.out.step HGL.out hg4 hp4).later (below_alloc1 w4 (.cells #[.int .i64 3, .string ⟨#[]⟩, .slice A4 n4 c4] 29))
      have hbx5 := Box.new w4 (.int .i64 3) (.string ⟨#[]⟩) (.slice A4 n4 c4)
      have HST5 := Lib.hid hst5; have HBX5 := Lib.hid hbx5
      clear hg4 hp4 hst5 hbx5
      go_wp2_with fail
      refine (oneed_wrong g e4 s 62 [] _ HST5.out.1).mono ?_; rintro e w6 ⟨rfl, rfl⟩
      obtain ⟨y0, y1, y2⟩ := HBX5.out.cells
      obtain ⟨z0, z1, z2⟩ := HST5.out.2.1.cells
      obtain ⟨k0, k1, k2⟩ := HST5.out.2.1.free
      generalize w4.alloc (.cells #[.int .i64 3, .string ⟨#[]⟩, .slice A4 n4 c4] 29) = w5 at HST5 HBX5 y0 y1 y2 z0 z1 z2 k0 k1 k2 ⊢
      go_wp2_with fail
      obtain ⟨d0, d1, d2⟩ := (box_set3 HST5.out.2.1 (.int .i64 3) (.string ⟨#[]⟩) (.slice A4 n4 c4)).cells
      refine bodyPost_ret (v := .agg #[.int .i64 3, .string ⟨#[]⟩, .slice A4 n4 c4]) (by simp [results, Tryz.results141, go_sem, d0, d1, d2]) rfl ?_
      exact HST5.out.ends HGL.out ⟨HST5.out.1, _, _, _, _, _, rfl, rfl, rfl⟩
    · obtain ⟨hp4, v4, rfl, hrow4⟩ := hk4
      obtain ⟨A4, c4, hv4, _, _⟩ := hrow4.shape
      subst hv4
      have hj4 := ((T.p_ok s.data.toList (f' + 1)).2 _ _ _ _ _ HRK.out).2.1
      have HJ4 := Lib.hid (show j4 ≤ s.size by have h2 := T.size_len s; omega)
      have htm := hrow4.term 3 ⟨#[]⟩ (by decide) (by decide)
      have HTM := Lib.hid htm
      have hst5 := (HST3.out.step HGL.out hg4 hp4).later (below_alloc1 w4 (.cells #[.int .i64 3, .string ⟨#[]⟩, .slice A4 ks.length c4] 29))
      have hbx5 := Box.new w4 (.int .i64 3) (.string ⟨#[]⟩) (.slice A4 ks.length c4)
      have HST5 := Lib.hid hst5; have HBX5 := Lib.hid hbx5; have HG4 := Lib.hid hg4
      have HT5 := Lib.hid (fun (b : Nat) (h : b < w4.heap.size) => Below.heap_alloc w4 (.cells #[.int .i64 3, .string ⟨#[]⟩, .slice A4 ks.length c4] 29) b h)
      have HZ5 := Lib.hid (size_alloc1 w4 (.cells #[.int .i64 3, .string ⟨#[]⟩, .slice A4 ks.length c4] 29))
      clear hg4 hp4 hst5 hbx5 hrow4 htm hj4
      go_wp2_with fail
      refine (oneed g j4 s ⟨#[62]⟩ _ HST5.out.1 (by have := HJ4.out; omega) hs (by decide)).mono ?_; rintro e w6 ⟨rfl, hg6, hs6⟩
      generalize w4.alloc (.cells #[.int .i64 3, .string ⟨#[]⟩, .slice A4 ks.length c4] 29) = w5 at HST5 HBX5 HT5 HZ5 hg6 ⊢
      have hne5 : some g ≠ some w4.heap.size := fun e => by have e' := Option.some.inj e; have := HGL.out; have := HG4.out.size; have := HST3.out.2.2.2; omega
      have hbx6 := HBX5.out.grown hg6 hne5
      obtain ⟨y0, y1, y2⟩ := hbx6.cells
      obtain ⟨j6, b6, hst6, hval⟩ : ∃ j6 b6, PSt 152 w g s w6 j6 b6 ∧ TermVal 152 w g s w6 (.int .i64 3) (.string ⟨#[]⟩) (.slice A4 ks.length c4) r := by
        have hq := HREQ.out
        rw [show (⟨#[62]⟩ : ByteArray).data.toList = [62] from rfl] at hs6
        simp only [T.close] at hq
        cases hn : T.need s.data.toList [62] j4 with
        | error e6 =>
          rw [hn] at hq hs6
          have hr' : r = .error e6 := by simpa using hq
          subst hr'
          exact ⟨e6, true, HST5.out.step HGL.out hg6 hs6, hs6, _, _, _, _, _, rfl, rfl, rfl⟩
        | ok j6 =>
          rw [hn] at hq hs6
          have hr' : r = .ok (.mk 3 ⟨#[]⟩ ks, j6) := by simpa using hq
          subst hr'
          refine ⟨j6, false, HST5.out.step HGL.out hg6 hs6, hs6, A4, c4, rfl, rfl, rfl, HTM.out.keep fun b hb hl => ⟨?_, ?_⟩⟩
          · have := of_decide_eq_true hb; have := HST3.out.2.2.2; exact decide_eq_true (by omega)
          · have h1 := of_decide_eq_true hb; have h2 := HST3.out.2.2.2
            rw [hg6.block b (by rw [HZ5.out]; omega) (fun e => by have e' := Option.some.inj e; have := HGL.out; omega)]
            exact HT5.out b hl
      obtain ⟨z0, z1, z2⟩ := hst6.2.1.cells
      obtain ⟨k0, k1, k2⟩ := hst6.2.1.free
      have HST6 := Lib.hid hst6; have HVAL := Lib.hid hval
      clear hg6 hs6 hbx6 hst6 hval hne5
      go_wp2_with fail
      obtain ⟨d0, d1, d2⟩ := (box_set3 HST6.out.2.1 (.int .i64 3) (.string ⟨#[]⟩) (.slice A4 ks.length c4)).cells
      refine bodyPost_ret (v := .agg #[.int .i64 3, .string ⟨#[]⟩, .slice A4 ks.length c4]) (by simp [results, Tryz.results141, go_sem, d0, d1, d2]) rfl ?_
      exact HST6.out.ends HGL.out HVAL.out
  rw [if_neg (by rw [h60]; decide)] at hr
  have H60 := Lib.hid h60
  clear h60
  go_wp2_with fail
  refine (onow_lit 60 60 (by decide) g i s _ HST1.out.1 (by omega) _ H60.out).mono ?_; rintro e w2 ⟨rfl, nq, rfl⟩
  have HST2 := Lib.hid (HST1.out.drewN nq)
  generalize w1.drewN nq = w2 at HST2 ⊢
  clear x0 x1 x2
  rcases Bool.eq_false_or_eq_true (T.now s.data.toList i 63) with h63 | h63
  · rw [if_pos h63] at hr
    have H63 := Lib.hid h63
    have HR := Lib.hid hr
    clear h63 hr
    go_wp2_with fail
    refine (onow_lit 63 63 (by decide) g i s _ HST2.out.1 (by omega) _ H63.out).mono ?_; rintro e w3 ⟨rfl, nq, rfl⟩
    go_wp2_with fail
    refine (oneed g i s ⟨#[63]⟩ _ (HST2.out.1.drewN nq) (by omega) hs (by decide)).mono ?_; rintro e w4 ⟨rfl, hg3, hs3⟩
    have hst3 := (HST2.out.drewN nq).step HGL.out hg3 (j' := i + 1) (b' := false) (by have h := hs3; rw [show (⟨#[63]⟩ : ByteArray).data.toList = [63] from rfl, T.need_now H63.out] at h; exact h)
    have HST3 := Lib.hid hst3
    have HIL := Lib.hid (show i + 1 ≤ s.size by have h := T.now_lt H63.out; have h2 := T.size_len s; omega)
    clear hg3 hs3 hst3
    go_wp2_with fail
    refine (opname g (i + 1) s _ HST3.out.1 HIL.out hs).mono ?_; rintro e w5 ⟨hg5, hnm⟩
    rcases hnm with ⟨hne, rfl, hp5⟩ | ⟨hne, rfl, hp5⟩
    · have hr' : r = .error (i + 1) := by have h := HR.out; rw [if_pos hne] at h; simpa using h.symm
      subst hr'
      have HST5 := Lib.hid (HST3.out.step HGL.out hg5 hp5)
      obtain ⟨z0, z1, z2⟩ := HST5.out.2.1.cells
      obtain ⟨k0, k1, k2⟩ := HST5.out.2.1.free
      clear hg5 hp5 hne
      go_wp2_with fail
      obtain ⟨d0, d1, d2⟩ := (box_set3 HST5.out.2.1 (.int .i64 2) (.string ⟨#[]⟩) (.slice none 0 0)).cells
      refine bodyPost_ret (v := .agg #[.int .i64 2, .string ⟨#[]⟩, .slice none 0 0]) (by simp [results, Tryz.results141, go_sem, d0, d1, d2]) rfl ?_
      exact HST5.out.ends HGL.out ⟨HST5.out.1, _, _, _, _, _, rfl, rfl, rfl⟩
    · have hr' : r = .ok (.mk 2 (T.nameStr s.data.toList (i + 1) (T.nameEnd s.data.toList (i + 1))) [], T.nameEnd s.data.toList (i + 1)) := by have h := HR.out; rw [if_neg hne] at h; simpa using h.symm
      have HST5 := Lib.hid (HST3.out.step HGL.out hg5 hp5)
      obtain ⟨z0, z1, z2⟩ := HST5.out.2.1.cells
      obtain ⟨k0, k1, k2⟩ := HST5.out.2.1.free
      have HNL := Lib.hid (T.nameStr_le s.data.toList (i + 1))
      clear hg5 hp5 hne HR
      generalize T.nameStr s.data.toList (i + 1) (T.nameEnd s.data.toList (i + 1)) = nm at HNL hr' ⊢
      subst hr'
      go_wp2_with fail
      obtain ⟨d0, d1, d2⟩ := (box_set3 HST5.out.2.1 (.int .i64 2) (.string nm) (.slice none 0 0)).cells
      refine bodyPost_ret (v := .agg #[.int .i64 2, .string nm, .slice none 0 0]) (by simp [results, Tryz.results141, go_sem, d0, d1, d2]) rfl ?_
      exact HST5.out.ends HGL.out ⟨HST5.out.1, none, 0, rfl, rfl, rfl, atom_in _ _ 2 nm (by decide) (by have := HNL.out; unfold maxLen; omega)⟩
  rw [if_neg (by rw [h63]; decide)] at hr
  have H63 := Lib.hid h63
  have HR := Lib.hid hr
  clear h63 hr
  go_wp2_with fail
  refine (onow_lit 63 63 (by decide) g i s _ HST2.out.1 (by omega) _ H63.out).mono ?_; rintro e w3 ⟨rfl, nq, rfl⟩
  have HST4 := Lib.hid (HST2.out.drewN nq)
  generalize w2.drewN nq = w4 at HST4 ⊢
  go_wp2_with fail
  refine (opname g i s _ HST4.out.1 hi hs).mono ?_; rintro e w5 ⟨hg5, hnm⟩
  rcases hnm with ⟨hne, rfl, hp5⟩ | ⟨hne, rfl, hp5⟩
  · have hr' : r = .error i := by have h := HR.out; rw [if_pos hne] at h; simpa using h.symm
    subst hr'
    have HST5 := Lib.hid (HST4.out.step HGL.out hg5 hp5)
    obtain ⟨z0, z1, z2⟩ := HST5.out.2.1.cells
    obtain ⟨k0, k1, k2⟩ := HST5.out.2.1.free
    clear hg5 hp5 hne
    go_wp2_with fail
    refine (ofn ⟨#[]⟩ _).mono ?_; rintro e w6 ⟨rfl, rfl⟩
    rw [show T.fnKind ⟨#[]⟩ = 0 by decide, show T.fnKids ⟨#[]⟩ = 0 by decide]
    go_wp2_with fail
    obtain ⟨d0, d1, d2⟩ := (box_set3 HST5.out.2.1 (.int .i64 1) (.string ⟨#[]⟩) (.slice none 0 0)).cells
    refine bodyPost_ret (v := .agg #[.int .i64 1, .string ⟨#[]⟩, .slice none 0 0]) (by simp [results, Tryz.results141, go_sem, d0, d1, d2]) rfl ?_
    exact HST5.out.ends HGL.out ⟨HST5.out.1, _, _, _, _, _, rfl, rfl, rfl⟩
  have HST5 := Lib.hid (HST4.out.step HGL.out hg5 hp5)
  obtain ⟨z0, z1, z2⟩ := HST5.out.2.1.cells
  obtain ⟨k0, k1, k2⟩ := HST5.out.2.1.free
  have HNL := Lib.hid (T.nameStr_le s.data.toList i)
  have hr2 := HR.out
  rw [if_neg hne] at hr2
  have HEL := Lib.hid (show T.nameEnd s.data.toList i ≤ s.size by have h := T.nameEnd_lt hne; have h2 := T.size_len s; omega)
  clear hg5 hp5 hne HR
  generalize T.nameStr s.data.toList i (T.nameEnd s.data.toList i) = nm at HNL hr2 ⊢
  generalize T.nameEnd s.data.toList i = je at HST5 HEL hr2 ⊢
  have HKR := Lib.hid (T.fnKind_range nm); have HNR := Lib.hid (T.fnKids_range nm)
  go_wp2_with fail
  refine (ofn nm _).mono ?_; rintro e w6 ⟨rfl, rfl⟩
  generalize T.fnKind nm = kk at HKR hr2 ⊢
  generalize T.fnKids nm = kn at HNR hr2 ⊢
  by_cases hk0 : kk = 0
  · have hr' : r = .ok (.mk 1 nm [], je) := by rw [if_pos (.inl hk0)] at hr2; simpa using hr2.symm
    subst hr'; subst hk0
    clear hr2
    go_wp2_with fail
    obtain ⟨d0, d1, d2⟩ := (box_set3 HST5.out.2.1 (.int .i64 1) (.string nm) (.slice none 0 0)).cells
    refine bodyPost_ret (v := .agg #[.int .i64 1, .string nm, .slice none 0 0]) (by simp [results, Tryz.results141, go_sem, d0, d1, d2]) rfl ?_
    exact HST5.out.ends HGL.out ⟨HST5.out.1, none, 0, rfl, rfl, rfl, atom_in _ _ 1 nm (by decide) (by have := HNL.out; unfold maxLen; omega)⟩
  have hk0' : (kk == 0) = false := by rw [beq_eq_false_iff_ne]; exact hk0
  rcases Bool.eq_false_or_eq_true (T.now s.data.toList je 40) with h40 | h40
  rotate_left
  · have hr' : r = .ok (.mk 1 nm [], je) := by rw [if_pos (.inr h40)] at hr2; simpa using hr2.symm
    subst hr'
    have H40 := Lib.hid h40
    clear hr2 h40 hk0
    go_wp2_with fail
    refine (onow_lit 40 40 (by decide) g je s _ HST5.out.1 (by have := HEL.out; omega) _ H40.out).mono ?_; rintro e w7 ⟨rfl, nq, rfl⟩
    have HST7 := Lib.hid (HST5.out.drewN nq)
    generalize w5.drewN nq = w7 at HST7 ⊢
    obtain ⟨z0, z1, z2⟩ := HST7.out.2.1.cells
    obtain ⟨k0, k1, k2⟩ := HST7.out.2.1.free
    go_wp2_with fail
    obtain ⟨d0, d1, d2⟩ := (box_set3 HST7.out.2.1 (.int .i64 1) (.string nm) (.slice none 0 0)).cells
    refine bodyPost_ret (v := .agg #[.int .i64 1, .string nm, .slice none 0 0]) (by simp [results, Tryz.results141, go_sem, d0, d1, d2]) rfl ?_
    exact HST7.out.ends HGL.out ⟨HST7.out.1, none, 0, rfl, rfl, rfl, atom_in _ _ 1 nm (by decide) (by have := HNL.out; unfold maxLen; omega)⟩
  rw [if_neg (by rintro (h | h); exact hk0 h; rw [h40] at h; cases h)] at hr2
  have H40 := Lib.hid h40
  have HR := Lib.hid hr2
  clear hr2 h40 hk0 z0 z1 z2 k0 k1 k2
  go_wp2_with fail
  refine (onow_lit 40 40 (by decide) g je s _ HST5.out.1 (by have := HEL.out; omega) _ H40.out).mono ?_; rintro e w7 ⟨rfl, nq, rfl⟩
  go_wp2_with fail
  refine (oneed g je s ⟨#[40]⟩ _ (HST5.out.1.drewN nq) (by have := HEL.out; omega) hs (by decide)).mono ?_; rintro e w8 ⟨rfl, hg3, hs3⟩
  have hst3 := (HST5.out.drewN nq).step HGL.out hg3 (j' := je + 1) (b' := false) (by have h := hs3; rw [show (⟨#[40]⟩ : ByteArray).data.toList = [40] from rfl, T.need_now H40.out] at h; exact h)
  have HST3 := Lib.hid hst3
  clear hg3 hs3 hst3
  have HIL := Lib.hid (show je + 1 ≤ s.size by have h := T.now_lt H40.out; have h2 := T.size_len s; omega)
  obtain ⟨f', hf', rk, hrk⟩ : ∃ f', f = f' + 1 ∧ ∃ rk, T.pkids s.data.toList (f' + 1) kn 0 (je + 1) = some rk := by
    have h := HR.out
    cases f with
    | zero => simp [T.pkids, T.close] at h
    | succ f' =>
      cases h2 : T.pkids s.data.toList (f' + 1) kn 0 (je + 1) with
      | none => rw [h2] at h; simp [T.close] at h
      | some rk => exact ⟨f', rfl, rk, h2⟩
  subst hf'
  have HRK := Lib.hid hrk
  have hreq : some r = T.close s.data.toList kk 41 (some rk) := by have h := HR.out; rw [hrk] at h; exact h.symm
  have HREQ := Lib.hid hreq
  clear hrk hreq
  go_wp2_with fail
  refine (okids f' (by omega) (fun f'' hf'' => HIH.out f'' (by omega)) g (je + 1) kn s _ rk HST3.out.1 HIL.out hs (HNR.out) HRK.out).mono ?_; rintro e w4 ⟨hg4, hk4⟩
  rcases rk with e4 | ⟨ks, j4⟩
  · obtain ⟨hp4, A4, n4, c4, rfl⟩ := hk4
    have hr' : r = .error e4 := by have := HREQ.out; simpa [T.close] using this
    subst hr'
    have hst5 := (HST3.out.step HGL.out hg4 hp4).later (below_alloc1 w4 (.cells #[.int .i64 kk, .string ⟨#[]⟩, .slice A4 n4 c4] 29))
    have hbx5 := Box.new w4 (.int .i64 kk) (.string ⟨#[]⟩) (.slice A4 n4 c4)
    have HST5 := Lib.hid hst5; have HBX5 := Lib.hid hbx5
    clear hg4 hp4 hst5 hbx5
    go_wp2_with fail
    refine (oneed_wrong g e4 s 41 [] _ HST5.out.1).mono ?_; rintro e w6 ⟨rfl, rfl⟩
    obtain ⟨y0, y1, y2⟩ := HBX5.out.cells
    obtain ⟨z0, z1, z2⟩ := HST5.out.2.1.cells
    obtain ⟨k0, k1, k2⟩ := HST5.out.2.1.free
    generalize w4.alloc (.cells #[.int .i64 kk, .string ⟨#[]⟩, .slice A4 n4 c4] 29) = w5 at HST5 HBX5 y0 y1 y2 z0 z1 z2 k0 k1 k2 ⊢
    go_wp2_with fail
    obtain ⟨d0, d1, d2⟩ := (box_set3 HST5.out.2.1 (.int .i64 kk) (.string ⟨#[]⟩) (.slice A4 n4 c4)).cells
    refine bodyPost_ret (v := .agg #[.int .i64 kk, .string ⟨#[]⟩, .slice A4 n4 c4]) (by simp [results, Tryz.results141, go_sem, d0, d1, d2]) rfl ?_
    exact HST5.out.ends HGL.out ⟨HST5.out.1, _, _, _, _, _, rfl, rfl, rfl⟩
  · obtain ⟨hp4, v4, rfl, hrow4⟩ := hk4
    obtain ⟨A4, c4, hv4, _, _⟩ := hrow4.shape
    subst hv4
    have hj4 := ((T.p_ok s.data.toList (f' + 1)).2 _ _ _ _ _ HRK.out).2.1
    have HJ4 := Lib.hid (show j4 ≤ s.size by have h2 := T.size_len s; omega)
    have htm := hrow4.term kk ⟨#[]⟩ (by have := HKR.out; omega) (by decide)
    have HTM := Lib.hid htm
    have hst5 := (HST3.out.step HGL.out hg4 hp4).later (below_alloc1 w4 (.cells #[.int .i64 kk, .string ⟨#[]⟩, .slice A4 ks.length c4] 29))
    have hbx5 := Box.new w4 (.int .i64 kk) (.string ⟨#[]⟩) (.slice A4 ks.length c4)
    have HST5 := Lib.hid hst5; have HBX5 := Lib.hid hbx5; have HG4 := Lib.hid hg4
    have HT5 := Lib.hid (fun (b : Nat) (h : b < w4.heap.size) => Below.heap_alloc w4 (.cells #[.int .i64 kk, .string ⟨#[]⟩, .slice A4 ks.length c4] 29) b h)
    have HZ5 := Lib.hid (size_alloc1 w4 (.cells #[.int .i64 kk, .string ⟨#[]⟩, .slice A4 ks.length c4] 29))
    clear hg4 hp4 hst5 hbx5 hrow4 htm hj4
    go_wp2_with fail
    refine (oneed g j4 s ⟨#[41]⟩ _ HST5.out.1 (by have := HJ4.out; omega) hs (by decide)).mono ?_; rintro e w6 ⟨rfl, hg6, hs6⟩
    generalize w4.alloc (.cells #[.int .i64 kk, .string ⟨#[]⟩, .slice A4 ks.length c4] 29) = w5 at HST5 HBX5 HT5 HZ5 hg6 ⊢
    have hne5 : some g ≠ some w4.heap.size := fun e => by have e' := Option.some.inj e; have := HGL.out; have := HG4.out.size; have := HST3.out.2.2.2; omega
    have hbx6 := HBX5.out.grown hg6 hne5
    obtain ⟨y0, y1, y2⟩ := hbx6.cells
    obtain ⟨j6, b6, hst6, hval⟩ : ∃ j6 b6, PSt 152 w g s w6 j6 b6 ∧ TermVal 152 w g s w6 (.int .i64 kk) (.string ⟨#[]⟩) (.slice A4 ks.length c4) r := by
      have hq := HREQ.out
      rw [show (⟨#[41]⟩ : ByteArray).data.toList = [41] from rfl] at hs6
      simp only [T.close] at hq
      cases hn : T.need s.data.toList [41] j4 with
      | error e6 =>
        rw [hn] at hq hs6
        have hr' : r = .error e6 := by simpa using hq
        subst hr'
        exact ⟨e6, true, HST5.out.step HGL.out hg6 hs6, hs6, _, _, _, _, _, rfl, rfl, rfl⟩
      | ok j6 =>
        rw [hn] at hq hs6
        have hr' : r = .ok (.mk kk ⟨#[]⟩ ks, j6) := by simpa using hq
        subst hr'
        refine ⟨j6, false, HST5.out.step HGL.out hg6 hs6, hs6, A4, c4, rfl, rfl, rfl, HTM.out.keep fun b hb hl => ⟨?_, ?_⟩⟩
        · have := of_decide_eq_true hb; have := HST3.out.2.2.2; exact decide_eq_true (by omega)
        · have h1 := of_decide_eq_true hb; have h2 := HST3.out.2.2.2
          rw [hg6.block b (by rw [HZ5.out]; omega) (fun e => by have e' := Option.some.inj e; have := HGL.out; omega)]
          exact HT5.out b hl
    obtain ⟨z0, z1, z2⟩ := hst6.2.1.cells
    obtain ⟨k0, k1, k2⟩ := hst6.2.1.free
    have HST6 := Lib.hid hst6; have HVAL := Lib.hid hval
    clear hg6 hs6 hbx6 hst6 hval hne5
    go_wp2_with fail
    obtain ⟨d0, d1, d2⟩ := (box_set3 HST6.out.2.1 (.int .i64 kk) (.string ⟨#[]⟩) (.slice A4 ks.length c4)).cells
    refine bodyPost_ret (v := .agg #[.int .i64 kk, .string ⟨#[]⟩, .slice A4 ks.length c4]) (by simp [results, Tryz.results141, go_sem, d0, d1, d2]) rfl ?_
    exact HST6.out.ends HGL.out HVAL.out
end Go.Proofs.YtihbmgkbipeakaaGreat
