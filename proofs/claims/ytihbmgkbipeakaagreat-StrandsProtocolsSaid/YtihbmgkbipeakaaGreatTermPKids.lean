/- Chapter 40: the walk of the program's kids, given what term says. -/
import Derived.Test.YtihbmgkbipeakaaGreatTermPName
import Derived.Deep.CutRange
namespace Go.Proofs.YtihbmgkbipeakaaGreat
open Go.RowKit

namespace T
def pre (acc : List T) : Option (Except Nat (List T × Nat)) → Option (Except Nat (List T × Nat))
  | none => none
  | some (.error e) => some (.error e)
  | some (.ok (ks, j)) => some (.ok (acc ++ ks, j))
theorem pre_nil (r : Option (Except Nat (List T × Nat))) : pre [] r = r := by rcases r with _ | _ | ⟨ks, j⟩ <;> rfl
theorem pre_more (acc : List T) (t : T) (r : Option (Except Nat (List T × Nat))) : pre acc (more t r) = pre (acc ++ [t]) r := by
  rcases r with _ | _ | ⟨ks, j⟩
  · rfl
  · rfl
  · simp [pre, more]
end T
/-- What term leaves. -/
def TermPost (ty : TypeId) (g : Nat) (s : ByteArray) (w : World) (r : Except Nat (T × Nat)) (e : Ending) (w' : World) : Prop :=
  w.grownBy w' (some g) ∧ (match r with
    | .ok (t, j) => PBox ty w' g s j false ∧ ∃ A cap, e = .returned (.agg #[.int .i64 t.kind, .string t.name, .slice A t.kids.length cap]) ∧ TermIn (from_ w.heap.size) w' (.agg #[.int .i64 t.kind, .string t.name, .slice A t.kids.length cap]) t
    | .error j => PBox ty w' g s j true ∧ ∃ (k : Int) (nm : ByteArray) (A : Option Addr) (n cap : Nat), e = .returned (.agg #[.int .i64 k, .string nm, .slice A n cap]))
/-- What kids leaves. -/
def KidsPost (ty : TypeId) (g : Nat) (s : ByteArray) (w : World) (r : Except Nat (List T × Nat)) (e : Ending) (w' : World) : Prop :=
  w.grownBy w' (some g) ∧ (match r with
    | .ok (ks, j) => PBox ty w' g s j false ∧ ∃ v, e = .returned v ∧ TermsRow w' w.heap.size v ks
    | .error j => PBox ty w' g s j true ∧ ∃ (A : Option Addr) (n cap : Nat), e = .returned (.slice A n cap))
theorem onow_lit (ci : Int) (c : UInt8) (hc : ci = (c.toNat : Int)) (g i : Nat) (s : ByteArray) (w : World) (h : PBox 152 w g s i false) (hi : i ≤ 4096) (r : Bool) (hr : T.now s.data.toList i c = r) :
    Calls Tryz.prog 179 #[.pointer (some ⟨g, 0, none⟩), .int .u8 ci] w fun e w' => e = .returned (.bool r) ∧ ∃ n, w' = w.drewN n := by
  subst hc; exact onow g i s c w h hi r hr
/-- The head of the loop of kids. -/
def KidsAt (ty : TypeId) (g : Nat) (s : ByteArray) (n : Nat) (r : Except Nat (List T × Nat)) (w : World) (fuel : Nat) (v5 : Value) (wr : World) : Prop :=
  (∃ (m : Nat) (acc : List T), some r = T.pre acc (T.pkids s.data.toList fuel n acc.length m) ∧ TermsRow wr w.heap.size v5 acc ∧ PBox ty wr g s m false ∧ m ≤ s.size ∧ acc.length + fuel ≤ 9000 ∧ w.grownBy wr (some g)) ∨
  (∃ (m : Nat) (A : Option Addr) (k cap : Nat), r = .error m ∧ v5 = .slice A k cap ∧ PBox ty wr g s m true ∧ w.grownBy wr (some g))
theorem grown_trans2 {w w1 w2 : World} {g : Nat} {row : Option Nat} (h : w.grownBy w1 (some g)) (k : w1.grownBy w2 row) (hr : ∀ b, row = some b → w.heap.size ≤ b) : w.grownBy w2 (some g) :=
  ⟨k.os.trans h.os, k.tape.trans h.tape, k.output.trans h.output, Nat.le_trans h.size k.size, fun i hi hn => by
    rw [k.block i (Nat.lt_of_lt_of_le hi h.size) (fun e => by have := hr i e.symm; omega)]; exact h.block i hi hn⟩
theorem grown_below2 {w w1 w2 : World} {g : Nat} (h : w.grownBy w1 (some g)) (k : Below w1.heap.size w1 w2) : w.grownBy w2 (some g) :=
  grownBy_trans h (grownBy_of_below _ k)
theorem TermsRow.step {w w1 w2 : World} {g : Nat} {v : Value} {L : List T} (h : TermsRow w1 w.heap.size v L) (hg : g < w.heap.size) (k : w1.grownBy w2 (some g)) : TermsRow w2 w.heap.size v L :=
  h.keep fun b hb hl => k.block b hl (fun e => by injection e with e; omega)

set_option maxRecDepth 100000 in
set_option maxHeartbeats 4000000 in
theorem okids (f : Nat) (hf : f ≤ 8999) (ht : ∀ f', f' ≤ f → ∀ (g i : Nat) (s : ByteArray) (w : World) (r : Except Nat (T × Nat)), PBox 152 w g s i false → i ≤ s.size → s.size ≤ 4096 → T.pterm s.data.toList f' i = some r →
      Calls Tryz.prog 141 #[.pointer (some ⟨g, 0, none⟩)] w (TermPost 152 g s w r))
    (g i n : Nat) (s : ByteArray) (w : World) (r : Except Nat (List T × Nat)) (h : PBox 152 w g s i false) (hi : i ≤ s.size) (hs : s.size ≤ 4096) (hn : n ≤ 2) (hr : T.pkids s.data.toList (f + 1) n 0 i = some r) :
    Calls Tryz.prog 181 #[.pointer (some ⟨g, 0, none⟩), .int .i64 n] w (KidsPost 152 g s w r) := by
  have hglt := h.lt
  obtain ⟨i0, hi0, hz0, hz1, hz2⟩ := info_parts Tryz.infoT
  have HST := Lib.hid (show KidsAt 152 g s n r w (f + 1) (.slice none 0 0) w from .inl ⟨i, [], by rw [T.pre_nil]; exact hr.symm, TermsRow.nil _ _, h, hi, by simp; omega, grown_refl _ _⟩)
  have HT := Lib.hid ht
  have HGL := Lib.hid hglt
  clear h hr ht hglt
  go_enter Tryz.func181, Tryz.ntmps181
  go_wp2_with fail
  go_loopg [5] (f + 1) (fun fuel v5 wr => ∃ v, v = v5 ∧ (KidsAt 152 g s n r w fuel v wr ∧ (0 < fuel ∨ ∃ m, r = .error m)) ∧ fuel ≤ f + 1)
  case atStart => exact ⟨_, rfl, ⟨HST.out, .inl (by omega)⟩, Nat.le_refl _⟩
  case round =>
    obtain ⟨lv, rfl, ⟨hat, _⟩, hfu⟩ := hrel
    rcases hat with ⟨m, acc, hreq, hrow, hp, hm, hcf, hg⟩ | ⟨m, A, k, cap, rfl, rfl, hp, hg⟩
    · cases gk with
      | zero => simp [T.pkids, T.pre] at hreq
      | succ fu =>
        obtain ⟨x0, x1, x2⟩ := hp.cells
        obtain ⟨rt, hrt⟩ : ∃ rt, T.pterm s.data.toList fu m = some rt := by
          cases h : T.pterm s.data.toList fu m with
          | none => simp [T.pkids, T.pre, h] at hreq
          | some rt => exact ⟨rt, rfl⟩
        simp only [T.pkids, hrt] at hreq
        have HREQ := Lib.hid hreq; have HROW := Lib.hid hrow; have HP := Lib.hid hp; have HG := Lib.hid hg
        have HRT := Lib.hid hrt
        clear hreq hrow hp hg hrt
        go_wp2_with fail
        refine (HT.out fu (by omega) g m s wr rt HP.out hm hs HRT.out).mono ?_
        rintro e w2 ⟨hg2, hres⟩
        have HG2 := Lib.hid hg2
        have hrow2 := HROW.out.step HGL.out hg2
        obtain ⟨A5, C5, hkv, hk1, hk2⟩ := hrow2.shape
        obtain ⟨xs, hown, hct⟩ := hrow2.owns
        have hblk := hrow2.block
        have HROW2 := Lib.hid hrow2; have HOWN := Lib.hid hown; have HCT := Lib.hid hct; have HBLK := Lib.hid hblk
        have HKV := Lib.hid hkv
        have HC1 := Lib.hid (show acc.length + 1 ≤ maxLen by unfold maxLen; omega)
        have HC2 := Lib.hid (show (acc.length + 1) * 48 ≤ 140737488355328 by omega)
        have hz2' := HG.out.size; have hz3' := hg2.size
        clear hg2 hrow2 hkv hk1 hk2 hown hct hblk x0 x1 x2
        rcases rt with e' | ⟨t, j⟩
        · obtain ⟨hp2, k0, nm, A6, n6, c6, rfl⟩ := hres
          have hr' : r = .error e' := by have := HREQ.out; simpa [T.pre] using this
          subst hr'
          have HONE := Lib.hid (show ∀ u ∈ [Value.int .i64 k0, .string nm, .slice A6 n6 c6], u.oneCell' = true from fun u hu => by simp at hu; rcases hu with rfl | rfl | rfl <;> rfl)
          have HOWN3 := Lib.hid (HOWN.out.alloc (.cells #[.int .i64 k0, .string nm, .slice A6 n6 c6] 29))
          have HMS := Lib.hid (show w.heap.size ≤ (w2.alloc (.cells #[.int .i64 k0, .string nm, .slice A6 n6 c6] 29)).heap.size by rw [size_alloc1]; omega)
          have HNE := Lib.hid (show lv.ownBlock ≠ some g from fun e => by have := (HBLK.out g e).1; have := HGL.out; omega)
          have HP3 := Lib.hid (hp2.later (below_alloc1 w2 (.cells #[.int .i64 k0, .string nm, .slice A6 n6 c6] 29)))
          have HG3 := Lib.hid (grown_below2 (grownBy_trans HG.out HG2.out) (below_alloc1 w2 (.cells #[.int .i64 k0, .string nm, .slice A6 n6 c6] 29)))
          clear hp2
          by_cases hn0 : n = 0
          · subst hn0
            go_wp2_with (at_builtin; refine wpList_append_lies _ rfl _ _ 27 rfl w.heap.size 29 i0 _ 3 48 Tryz.underlying27 hi0 hz0 hz1 hz2 rfl (by omega) _ acc.length _ rfl HOWN3.out ⟨w2.heap.size, 0, none⟩ 1 1 _ rfl rfl (World.news_of_block (heap_alloc_new _ _)) HONE.out (by omega) HC1.out HC2.out HMS.out _ rfl ?_; intro g4 cap4 w4 hown4 hg4 hat4 hlt4)
            have HP4 := Lib.hid (HP3.out.grown hg4 HNE.out)
            have HG4 := Lib.hid (grown_trans2 HG3.out hg4 (fun b hb => (HBLK.out b hb).1))
            clear hown4 hg4 hat4 hlt4
            refine (onow_wrong g e' s _ _ HP4.out).mono ?_; rintro e w6 ⟨rfl, nq, rfl⟩
            go_wp2_with fail
            go_ret
            exact ⟨grown_drewN HG4.out nq, HP4.out.drewN nq, _, _, _, rfl⟩
          · by_cases hcn : acc.length + 1 = n
            · have HCN := Lib.hid hcn
              have n1 : (0 : Int) < (n : Int) := by omega
              have n1' : decide ((0 : Int) < (n : Int)) = true := decide_eq_true n1
              have n1'' : decide (0 < n) = true := decide_eq_true (by omega)
              have n2 : ((n : Int) == 0) = false := by rw [beq_eq_false_iff_ne]; omega
              have n3 : ((acc.length : Int) + 1 == (n : Int)) = true := by rw [beq_iff_eq]; omega
              clear hcn hn0
              go_wp2_with (at_builtin; refine wpList_append_lies _ rfl _ _ 27 rfl w.heap.size 29 i0 _ 3 48 Tryz.underlying27 hi0 hz0 hz1 hz2 rfl (by omega) _ acc.length _ rfl HOWN3.out ⟨w2.heap.size, 0, none⟩ 1 1 _ rfl rfl (World.news_of_block (heap_alloc_new _ _)) HONE.out (by omega) HC1.out HC2.out HMS.out _ rfl ?_; intro g4 cap4 w4 hown4 hg4 hat4 hlt4)
              go_ret
              have HP4 := Lib.hid (HP3.out.grown hg4 HNE.out)
              have HG4 := Lib.hid (grown_trans2 HG3.out hg4 (fun b hb => (HBLK.out b hb).1))
              exact ⟨HG4.out, HP4.out, _, _, _, rfl⟩
            · have HCN := Lib.hid hcn
              have n1 : (0 : Int) < (n : Int) := by omega
              have n1' : decide ((0 : Int) < (n : Int)) = true := decide_eq_true n1
              have n1'' : decide (0 < n) = true := decide_eq_true (by omega)
              have n2 : ((n : Int) == 0) = false := by rw [beq_eq_false_iff_ne]; omega
              have n3 : ((acc.length : Int) + 1 == (n : Int)) = false := by rw [beq_eq_false_iff_ne]; omega
              clear hcn hn0
              go_wp2_with (at_builtin; refine wpList_append_lies _ rfl _ _ 27 rfl w.heap.size 29 i0 _ 3 48 Tryz.underlying27 hi0 hz0 hz1 hz2 rfl (by omega) _ acc.length _ rfl HOWN3.out ⟨w2.heap.size, 0, none⟩ 1 1 _ rfl rfl (World.news_of_block (heap_alloc_new _ _)) HONE.out (by omega) HC1.out HC2.out HMS.out _ rfl ?_; intro g4 cap4 w4 hown4 hg4 hat4 hlt4)
              have HP4 := Lib.hid (HP3.out.grown hg4 HNE.out)
              have HG4 := Lib.hid (grown_trans2 HG3.out hg4 (fun b hb => (HBLK.out b hb).1))
              clear hown4 hg4 hat4 hlt4
              refine (oneed_wrong g e' s 44 [32] _ HP4.out).mono ?_; rintro e w6 ⟨rfl, rfl⟩
              go_wp2_with fail
              go_roundg fu
              case measure => omega
              case rel => exact ⟨_, rfl, ⟨.inr ⟨e', _, _, _, rfl, rfl, HP4.out, HG4.out⟩, .inr ⟨e', rfl⟩⟩, by omega⟩
        · obtain ⟨hp2, A6, c6, rfl, hti⟩ := hres
          have hj := ((T.p_ok s.data.toList fu).1 _ _ _ HRT.out).2.1
          have hjs : j ≤ s.size := by simpa using hj
          have HONE := Lib.hid hti.one
          have HLV := Lib.hid (show ∀ b, lv.ownBlock = some b → b < wr.heap.size from fun b hb => (HROW.out.block b hb).2)
          have HOWN3 := Lib.hid (HOWN.out.alloc (.cells #[.int .i64 t.kind, .string t.name, .slice A6 t.kids.length c6] 29))
          have HMS := Lib.hid (show w.heap.size ≤ (w2.alloc (.cells #[.int .i64 t.kind, .string t.name, .slice A6 t.kids.length c6] 29)).heap.size by rw [size_alloc1]; omega)
          have HNE := Lib.hid (show lv.ownBlock ≠ some g from fun e => by have := (HBLK.out g e).1; have := HGL.out; omega)
          have HP3 := Lib.hid (hp2.later (below_alloc1 w2 (.cells #[.int .i64 t.kind, .string t.name, .slice A6 t.kids.length c6] 29)))
          have HG3 := Lib.hid (grown_below2 (grownBy_trans HG.out HG2.out) (below_alloc1 w2 (.cells #[.int .i64 t.kind, .string t.name, .slice A6 t.kids.length c6] 29)))
          clear hp2 hj
          by_cases hend : (0 < n ∧ acc.length + 1 = n) ∨ (n = 0 ∧ T.now s.data.toList j 44 = false)
          · have hr' : r = .ok (acc ++ [t], j) := by have := HREQ.out; dsimp only at this; rw [if_pos hend] at this; simpa [T.pre] using this
            subst hr'
            rcases hend with ⟨hn0, hcn⟩ | ⟨hn0, hnow⟩
            · have HCN := Lib.hid hcn
              have n1 : (0 : Int) < (n : Int) := by omega
              have n1' : decide ((0 : Int) < (n : Int)) = true := decide_eq_true n1
              have n1'' : decide (0 < n) = true := decide_eq_true (by omega)
              have n2 : ((n : Int) == 0) = false := by rw [beq_eq_false_iff_ne]; omega
              have n3 : ((acc.length : Int) + 1 == (n : Int)) = true := by rw [beq_iff_eq]; omega
              clear hcn hn0
              go_wp2_with (at_builtin; refine wpList_append_lies _ rfl _ _ 27 rfl w.heap.size 29 i0 _ 3 48 Tryz.underlying27 hi0 hz0 hz1 hz2 rfl (by omega) _ acc.length _ rfl HOWN3.out ⟨w2.heap.size, 0, none⟩ 1 1 _ rfl rfl (World.news_of_block (heap_alloc_new _ _)) HONE.out (by omega) HC1.out HC2.out HMS.out _ rfl ?_; intro g4 cap4 w4 hown4 hg4 hat4 hlt4)
              go_ret
              have HP4 := Lib.hid (HP3.out.grown hg4 HNE.out)
              have HG4 := Lib.hid (grown_trans2 HG3.out hg4 (fun b hb => (HBLK.out b hb).1))
              have HROW4 := Lib.hid (TermsRow.snoc (w := w2.alloc (.cells #[.int .i64 t.kind, .string t.name, .slice A6 t.kids.length c6] 29)) (H := w2.heap.size + 1) (t := t) (fun i hi => by
                  obtain ⟨a0, a1, a2, b0, b1, b2, b3⟩ := HCT.out i hi
                  exact ⟨a0, a1, a2, b0, b1, b2, b3.keep fun b hb hl => ⟨hb, Below.heap_alloc _ _ b hl⟩⟩) HOWN.out.1
                (hti.keep fun b hb hl => ⟨but_iff.2 ⟨by have := of_decide_eq_true hb; have := HG.out.size; omega, fun e => by have := HLV.out b e; have := of_decide_eq_true hb; omega⟩, Below.heap_alloc _ _ b hl⟩) hown4 hg4 (hat4.imp id fun h => h.trans (size_alloc1 _ _)) (size_alloc1 _ _))
              exact ⟨HG4.out, HP4.out, _, rfl, HROW4.out⟩
            · subst hn0
              have HNOW := Lib.hid hnow; clear hnow
              go_wp2_with (at_builtin; refine wpList_append_lies _ rfl _ _ 27 rfl w.heap.size 29 i0 _ 3 48 Tryz.underlying27 hi0 hz0 hz1 hz2 rfl (by omega) _ acc.length _ rfl HOWN3.out ⟨w2.heap.size, 0, none⟩ 1 1 _ rfl rfl (World.news_of_block (heap_alloc_new _ _)) HONE.out (by omega) HC1.out HC2.out HMS.out _ rfl ?_; intro g4 cap4 w4 hown4 hg4 hat4 hlt4)
              have HP4 := Lib.hid (HP3.out.grown hg4 HNE.out)
              have HG4 := Lib.hid (grown_trans2 HG3.out hg4 (fun b hb => (HBLK.out b hb).1))
              have HROW4 := Lib.hid (TermsRow.snoc (w := w2.alloc (.cells #[.int .i64 t.kind, .string t.name, .slice A6 t.kids.length c6] 29)) (H := w2.heap.size + 1) (t := t) (fun i hi => by
                  obtain ⟨a0, a1, a2, b0, b1, b2, b3⟩ := HCT.out i hi
                  exact ⟨a0, a1, a2, b0, b1, b2, b3.keep fun b hb hl => ⟨hb, Below.heap_alloc _ _ b hl⟩⟩) HOWN.out.1
                (hti.keep fun b hb hl => ⟨but_iff.2 ⟨by have := of_decide_eq_true hb; have := HG.out.size; omega, fun e => by have := HLV.out b e; have := of_decide_eq_true hb; omega⟩, Below.heap_alloc _ _ b hl⟩) hown4 hg4 (hat4.imp id fun h => h.trans (size_alloc1 _ _)) (size_alloc1 _ _))
              clear hown4 hg4 hat4 hlt4
              refine (onow_lit 44 44 (by decide) g j s _ HP4.out (by omega) _ HNOW.out).mono ?_; rintro e w6 ⟨rfl, nq, rfl⟩
              go_wp2_with fail
              go_ret
              exact ⟨grown_drewN HG4.out nq, HP4.out.drewN nq, _, rfl, HROW4.out.keep fun _ _ _ => rfl⟩
          · have hreq2 : some r = T.pre acc (match T.need s.data.toList [44, 32] j with
                | .error e => some (.error e)
                | .ok j' => T.more t (T.pkids s.data.toList fu n (acc.length + 1) j')) := by
              have := HREQ.out
              dsimp only at this
              rw [if_neg hend] at this
              exact this
            have hwalk : ∀ (W : World), PBox 152 W g s j false → Calls Tryz.prog 180 #[.pointer (some ⟨g, 0, none⟩), .string ⟨#[44, 32]⟩] W fun e w' => e = .returned (.tuple #[]) ∧ W.grownBy w' (some g) ∧ Stands 152 w' g s (T.need s.data.toList [44, 32] j) := fun W hW => oneed g j s ⟨#[44, 32]⟩ W hW (by omega) hs (by decide)
            have HWALK := Lib.hid hwalk; have HREQ2 := Lib.hid hreq2
            clear hreq2 hwalk
            have hfin : ∀ (v : Value) (w6 w8 : World), TermsRow w6 w.heap.size v (acc ++ [t]) → w.grownBy w6 (some g) → w6.grownBy w8 (some g) → Stands 152 w8 g s (T.need s.data.toList [44, 32] j) →
                (KidsAt 152 g s n r w fu v w8 ∧ (0 < fu ∨ ∃ m, r = .error m)) := fun v w6 w8 hr6 hg6 hg8 hst => by
              have hq := HREQ2.out
              have hrow8 := hr6.step HGL.out hg8
              cases hne : T.need s.data.toList [44, 32] j with
              | error e' =>
                rw [hne] at hq hst
                have : r = .error e' := by simpa [T.pre] using hq
                obtain ⟨A9, C9, hv9, _, _⟩ := hrow8.shape
                exact ⟨.inr ⟨e', A9, _, C9, this, hv9, hst, grownBy_trans hg6 hg8⟩, .inr ⟨e', this⟩⟩
              | ok j' =>
                rw [hne] at hq hst
                have hj' := (T.need_ok _ _ _ hne).2 (by simp)
                refine ⟨.inl ⟨j', acc ++ [t], ?_, hrow8, hst, by simpa using hj', by simp; omega, grownBy_trans hg6 hg8⟩, ?_⟩
                · rw [hq, ← T.pre_more]; simp
                · cases fu with
                  | zero => simp [T.pkids, T.more, T.pre] at hq
                  | succ q => left; omega
            have HFIN := Lib.hid hfin; clear hfin
            by_cases hn0 : n = 0
            · subst hn0
              have hnow : T.now s.data.toList j 44 = true := by
                rcases Bool.eq_false_or_eq_true (T.now s.data.toList j 44) with h | h
                · exact h
                · exact absurd (.inr ⟨rfl, h⟩) hend
              have HNOW := Lib.hid hnow; clear hnow hend
              go_wp2_with (at_builtin; refine wpList_append_lies _ rfl _ _ 27 rfl w.heap.size 29 i0 _ 3 48 Tryz.underlying27 hi0 hz0 hz1 hz2 rfl (by omega) _ acc.length _ rfl HOWN3.out ⟨w2.heap.size, 0, none⟩ 1 1 _ rfl rfl (World.news_of_block (heap_alloc_new _ _)) HONE.out (by omega) HC1.out HC2.out HMS.out _ rfl ?_; intro g4 cap4 w4 hown4 hg4 hat4 hlt4)
              have HP4 := Lib.hid (HP3.out.grown hg4 HNE.out)
              have HG4 := Lib.hid (grown_trans2 HG3.out hg4 (fun b hb => (HBLK.out b hb).1))
              have HROW4 := Lib.hid (TermsRow.snoc (w := w2.alloc (.cells #[.int .i64 t.kind, .string t.name, .slice A6 t.kids.length c6] 29)) (H := w2.heap.size + 1) (t := t) (fun i hi => by
                  obtain ⟨a0, a1, a2, b0, b1, b2, b3⟩ := HCT.out i hi
                  exact ⟨a0, a1, a2, b0, b1, b2, b3.keep fun b hb hl => ⟨hb, Below.heap_alloc _ _ b hl⟩⟩) HOWN.out.1
                (hti.keep fun b hb hl => ⟨but_iff.2 ⟨by have := of_decide_eq_true hb; have := HG.out.size; omega, fun e => by have := HLV.out b e; have := of_decide_eq_true hb; omega⟩, Below.heap_alloc _ _ b hl⟩) hown4 hg4 (hat4.imp id fun h => h.trans (size_alloc1 _ _)) (size_alloc1 _ _))
              clear hown4 hg4 hat4 hlt4
              refine (onow_lit 44 44 (by decide) g j s _ HP4.out (by omega) _ HNOW.out).mono ?_; rintro e w6 ⟨rfl, nq, rfl⟩
              go_wp2_with fail
              refine (HWALK.out _ (HP4.out.drewN nq)).mono ?_; rintro e w8 ⟨rfl, hg8, hst8⟩
              have HF := Lib.hid (HFIN.out _ _ w8 (HROW4.out.keep (w' := w4.drewN nq) fun _ _ _ => rfl) (grown_drewN HG4.out nq) hg8 hst8)
              clear hg8 hst8
              go_wp2_with fail
              go_roundg fu
              case measure => omega
              case rel => exact ⟨_, rfl, HF.out, by omega⟩
            · have hcn : acc.length + 1 ≠ n := fun h => hend (.inl ⟨by omega, h⟩)
              have n1 : (0 : Int) < (n : Int) := by omega
              have n1' : decide ((0 : Int) < (n : Int)) = true := decide_eq_true n1
              have n1'' : decide (0 < n) = true := decide_eq_true (by omega)
              have n2 : ((n : Int) == 0) = false := by rw [beq_eq_false_iff_ne]; omega
              have n3 : ((acc.length : Int) + 1 == (n : Int)) = false := by rw [beq_eq_false_iff_ne]; omega
              clear hcn hn0 hend
              go_wp2_with (at_builtin; refine wpList_append_lies _ rfl _ _ 27 rfl w.heap.size 29 i0 _ 3 48 Tryz.underlying27 hi0 hz0 hz1 hz2 rfl (by omega) _ acc.length _ rfl HOWN3.out ⟨w2.heap.size, 0, none⟩ 1 1 _ rfl rfl (World.news_of_block (heap_alloc_new _ _)) HONE.out (by omega) HC1.out HC2.out HMS.out _ rfl ?_; intro g4 cap4 w4 hown4 hg4 hat4 hlt4)
              have HP4 := Lib.hid (HP3.out.grown hg4 HNE.out)
              have HG4 := Lib.hid (grown_trans2 HG3.out hg4 (fun b hb => (HBLK.out b hb).1))
              have HROW4 := Lib.hid (TermsRow.snoc (w := w2.alloc (.cells #[.int .i64 t.kind, .string t.name, .slice A6 t.kids.length c6] 29)) (H := w2.heap.size + 1) (t := t) (fun i hi => by
                  obtain ⟨a0, a1, a2, b0, b1, b2, b3⟩ := HCT.out i hi
                  exact ⟨a0, a1, a2, b0, b1, b2, b3.keep fun b hb hl => ⟨hb, Below.heap_alloc _ _ b hl⟩⟩) HOWN.out.1
                (hti.keep fun b hb hl => ⟨but_iff.2 ⟨by have := of_decide_eq_true hb; have := HG.out.size; omega, fun e => by have := HLV.out b e; have := of_decide_eq_true hb; omega⟩, Below.heap_alloc _ _ b hl⟩) hown4 hg4 (hat4.imp id fun h => h.trans (size_alloc1 _ _)) (size_alloc1 _ _))
              clear hown4 hg4 hat4 hlt4
              refine (HWALK.out _ HP4.out).mono ?_; rintro e w8 ⟨rfl, hg8, hst8⟩
              have HF := Lib.hid (HFIN.out _ _ w8 HROW4.out HG4.out hg8 hst8)
              clear hg8 hst8
              go_wp2_with fail
              go_roundg fu
              case measure => omega
              case rel => exact ⟨_, rfl, HF.out, by omega⟩
    · obtain ⟨x0, x1, x2⟩ := hp.cells
      have HP := Lib.hid hp; have HG := Lib.hid hg
      clear hp hg
      go_wp2_with fail
      go_ret
      exact ⟨HG.out, HP.out, _, _, _, rfl⟩
end Go.Proofs.YtihbmgkbipeakaaGreat
