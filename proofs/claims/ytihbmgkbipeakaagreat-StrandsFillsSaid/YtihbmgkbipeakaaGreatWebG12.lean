/- Several texts in one: TermRParts. -/
import Derived.Test.YtihbmgkbipeakaaGreatWebG11
import Derived.Deep.RegionLaw
import Derived.Deep.DrawnRows
namespace Go.Proofs.YtihbmgkbipeakaaGreat
open Go.RowKit

attribute [local go_sem ↓] Go.wp_at_zero Go.wp_at_succ

set_option maxRecDepth 100000 in
set_option maxHeartbeats 1000000 in
/-- term, where something is wrong. -/
theorem rterm_wrong (g i : Nat) (s : ByteArray) (w : World) (hp : PBox 133 w g s i true) :
    Calls Tryz.prog 121 #[.pointer (some ⟨g, 0, none⟩)] w (TermPost 133 g s w (.error i)) := by
  have hst1 := PSt.start hp
  have HGL := Lib.hid hp.lt
  clear hp
  go_enter Tryz.func121, Tryz.ntmps121
  go_upto_region 1 with fail
  generalize w.alloc (.cells #[.int .i64 0, .string ⟨#[]⟩, .slice none 0 0] 29) = w1 at hst1 ⊢
  obtain ⟨x0, x1, x2⟩ := hst1.1.cells
  have HST1 := Lib.hid hst1
  clear hst1
  go_quiet (fail)
  have HST2 := Lib.hid (HST1.out.drewN nq)
  generalize w1.drewN nq = w2 at HST2 ⊢
  obtain ⟨y0, y1, y2⟩ := HST2.out.1.cells
  obtain ⟨f0, f1, f2⟩ := HST2.out.1.free
  have hp3 := HST2.out.1.set2 true
  have HST3 := Lib.hid (HST2.out.step HGL.out (grown_set (grown_refl _ _) 2 (.bool true)) hp3)
  clear x0 x1 x2 hp3
  go_upto_region 3 with fail
  generalize w2.setCell ⟨g, 2, none⟩ (.bool true) = w3 at HST3 ⊢
  obtain ⟨z0, z1, z2⟩ := HST3.out.2.1.cells
  obtain ⟨k0, k1, k2⟩ := HST3.out.2.1.free
  clear y0 y1 y2 f0 f1 f2
  go_wp2_with fail
  obtain ⟨d0, d1, d2⟩ := (box_set3 HST3.out.2.1 (.int .i64 0) (.string ⟨#[]⟩) (.slice none 0 0)).cells
  refine bodyPost_ret (v := .agg #[.int .i64 0, .string ⟨#[]⟩, .slice none 0 0]) (by simp [results, Tryz.results121, go_sem, d0, d1, d2]) rfl ?_
  exact HST3.out.ends HGL.out ⟨HST3.out.1, _, _, _, _, _, rfl, rfl, rfl⟩

/-- The head of the loop of parts: x is the block of the term that is being made. -/
def PartsAt (g : Nat) (s : ByteArray) (n : Nat) (kk : Int) (x : Nat) (rk : Except Nat (List T × Nat)) (w : World) (gk : Nat) (wr : World) : Prop :=
  ∃ kv, Box wr x (.int .i64 kk) (.string ⟨#[]⟩) kv ∧
    ((∃ (fuel m : Nat) (acc : List T), gk = fuel + 1 ∧ some rk = T.pre acc (T.after s.data.toList fuel n acc.length m) ∧ (0 < n → acc.length ≤ n) ∧ m ≤ s.size ∧ acc.length + fuel ≤ 9000 ∧ TermsRow (only wr (notB x)) (w.heap.size + 1) kv acc ∧ (∀ b, kv.ownBlock = some b → b ≠ x) ∧
        PSt 133 w g s wr m false) ∨
     (∃ (m : Nat) (A : Option Addr) (k cap : Nat), rk = .error m ∧ kv = .slice A k cap ∧ k ≤ 9001 ∧ PSt 133 w g s wr m true))
/-- What a further call of term gives to parts. -/
def NextF (g : Nat) (s : ByteArray) (n : Nat) (acc : List T) (rk : Except Nat (List T × Nat)) (gk : Nat) (w4 w5 : World) (k0 : Int) (nm : ByteArray) (A3 : Option Addr) (n3 c3 : Nat) : Prop :=
  (∃ (t : T) (j fu : Nat), gk = fu + 1 ∧ some rk = T.pre (acc ++ [t]) (T.after s.data.toList fu n (acc.length + 1) j) ∧ j ≤ s.size ∧ acc.length + 1 + fu ≤ 9000 ∧ PBox 133 w5 g s j false ∧ TermIn (from_ w4.heap.size) w5 (.agg #[.int .i64 k0, .string nm, .slice A3 n3 c3]) t) ∨
  (∃ m, rk = .error m ∧ PBox 133 w5 g s m true)
theorem parts_step {g n x gk g4 cap4 c : Nat} {s : ByteArray} {kk k0 : Int} {rk : Except Nat (List T × Nat)} {w w4 w5 w6 : World} {kv : Value} {acc : List T} {nm : ByteArray} {A3 : Option Addr} {n3 c3 j' : Nat} {b' : Bool} {xs : List Value}
    (hgl : g < w.heap.size) (hxl : w.heap.size + 1 ≤ x) (bx : Box w4 x (.int .i64 kk) (.string ⟨#[]⟩) kv) (hrow : TermsRow (only w4 (notB x)) (w.heap.size + 1) kv acc) (hkx : ∀ b, kv.ownBlock = some b → b ≠ x) (hst : PSt 133 w g s w4 j' b')
    (hc : c = acc.length) (hxs : xs.length = acc.length * 3) (hx : ∀ i (h : i < acc.length), ∃ u0 u1 u2, xs[i * 3]? = some u0 ∧ xs[i * 3 + 1]? = some u1 ∧ xs[i * 3 + 2]? = some u2 ∧ TermIn (but (w.heap.size + 1) kv.ownBlock) (only w4 (notB x)) (.agg #[u0, u1, u2]) acc[i])
    (hn : 0 < n → acc.length < n) (hcl : acc.length ≤ 9000) (hg5 : w4.grownBy w5 (some g)) (hF : NextF g s n acc rk gk w4 w5 k0 nm A3 n3 c3)
    (hown : w6.ownsRow (w.heap.size + 1) 29 3 (.slice (some ⟨g4, 0, none⟩) (c + 1) cap4) (c + 1) (xs ++ [.int .i64 k0, .string nm, .slice A3 n3 c3]))
    (hg6 : (w5.alloc (.cells #[.int .i64 k0, .string nm, .slice A3 n3 c3] 29)).grownBy w6 kv.ownBlock) (hat : kv.ownBlock = some g4 ∨ g4 = w5.heap.size + 1) :
    PartsAt g s n kk x rk w gk (w6.setCell ⟨x, 2, none⟩ (.slice (some ⟨g4, 0, none⟩) (c + 1) cap4)) := by
  subst hc
  have hba := below_alloc1 w5 (.cells #[.int .i64 k0, .string nm, .slice A3 n3 c3] 29)
  have hsa := size_alloc1 w5 (.cells #[.int .i64 k0, .string nm, .slice A3 n3 c3] 29)
  generalize w5.alloc (.cells #[.int .i64 k0, .string nm, .slice A3 n3 c3] 29) = w5' at hba hsa hg6
  have z5 := hg5.size; have z6 := hg6.size; have zx := bx.lt
  have hblk : ∀ b, kv.ownBlock = some b → w.heap.size + 1 ≤ b ∧ b < w4.heap.size := fun b hb => by have := hrow.block b hb; rw [only_size] at this; exact this
  have hkg : kv.ownBlock ≠ some g := fun e => by have := (hblk g e).1; omega
  have hkB : kv.ownBlock ≠ some w.heap.size := fun e => by have := (hblk _ e).1; omega
  have hkx' : kv.ownBlock ≠ some x := fun e => hkx x e rfl
  have bx6 : Box w6 x (.int .i64 kk) (.string ⟨#[]⟩) kv := ((bx.grown hg5 (fun e => by have e' := Option.some.inj e; omega)).later hba).grown hg6 hkx'
  have hg4x : g4 ≠ x := by
    rcases hat with h | h
    · exact hkx g4 h
    · omega
  have hst6 : ∀ {m b}, PBox 133 w5 g s m b → PSt 133 w g s (w6.setCell ⟨x, 2, none⟩ (.slice (some ⟨g4, 0, none⟩) (acc.length + 1) cap4)) m b := fun hp => by
    have h5 := (hst.step hgl hg5 hp).later hba
    refine ⟨?_, ?_, ?_, ?_⟩
    · exact (Below.heap_setCell _ _ _ _ (by show g ≠ x; omega)).trans (h5.1.grown hg6 hkg)
    · exact (h5.2.1.grown hg6 hkB).setOther (by show w.heap.size ≠ x; omega) _
    · have h7 := grown_trans2 h5.2.2.1 hg6 (fun b hb => by have := (hblk b hb).1; omega)
      exact ⟨h7.os, h7.tape, h7.output, by simp [World.setCell]; exact h7.size, fun k hk hn => by rw [Below.heap_setCell _ _ _ _ (by show k ≠ x; omega)]; exact h7.block k hk hn⟩
    · have := h5.2.2.2; simp [World.setCell]; omega
  refine ⟨_, bx6.set2 _, ?_⟩
  rcases hF with ⟨t, j, fu, h1, h2, h3, h4, h5, h6⟩ | ⟨m, h1, h2⟩
  · left
    refine ⟨fu, j, acc ++ [t], h1, by simpa using h2, fun h => by have := hn h; simp; omega, h3, by simpa using h4, ?_, fun b hb => ?_, hst6 h5⟩
    · have hgr : (only w4 (notB x)).grownBy (only w5' (notB x)) (some g) := only_grown (grownBy_trans hg5 (grownBy_of_below _ hba)) _
      have hkk : ∀ b, w.heap.size + 1 ≤ b → b < w4.heap.size → (only w5' (notB x)).heap[b]? = (only w4 (notB x)).heap[b]? := fun b hb hl => hgr.block b (by rw [only_size]; exact hl) (fun e => by have e' := Option.some.inj e; omega)
      have hs := TermsRow.snoc (w := only w5' (notB x)) (w' := only w6 (notB x)) (base := w.heap.size + 1) (H := w5.heap.size + 1) (t := t) (fun i hi => by
          obtain ⟨a0, a1, a2, b0, b1, b2, b3⟩ := hx i hi
          exact ⟨a0, a1, a2, b0, b1, b2, b3.keep fun b hb hl => ⟨hb, hkk b (but_iff.1 hb).1 (by rw [only_size] at hl; exact hl)⟩⟩) hxs
        (h6.keep fun b hb hl => ⟨but_iff.2 ⟨by have := of_decide_eq_true hb; have := hst.2.2.2; omega, fun e => by have := (hblk b e).2; have := of_decide_eq_true hb; omega⟩, by
          have hb' := of_decide_eq_true hb
          have hnx : notB x b = true := notB_iff.2 (by omega)
          rw [only_get, hba.block b hl]; simp only [hnx, if_true]; cases w5.heap[b]? <;> rfl⟩)
        (only_owns hown _ (fun q hq => by have e := Option.some.inj hq; exact notB_iff.2 (by show q ≠ x; have : g4 = q := e; omega))) (only_grown hg6 _) hat (by rw [only_size, hsa])
      exact hs.keep fun b _ _ => only_set w6 _ _ _ (notB_self x) b
    · have e : g4 = b := Option.some.inj hb; omega
  · right; exact ⟨m, _, _, _, h1, rfl, by omega, hst6 h2⟩

set_option maxRecDepth 100000 in
set_option maxHeartbeats 8000000 in
theorem rparts (f : Nat) (hf : f ≤ 8998) (ht : ∀ f', f' ≤ f → ∀ (g i : Nat) (s : ByteArray) (w : World) (r : Except Nat (T × Nat)), PBox 133 w g s i false → i ≤ s.size → s.size ≤ 4096 → T.pterm s.data.toList f' i = some r →
      Calls Tryz.prog 121 #[.pointer (some ⟨g, 0, none⟩)] w (TermPost 133 g s w r))
    (g i n : Nat) (kk : Int) (cc : UInt8) (q : ByteArray) (hqq : q = ⟨#[cc]⟩) (s : ByteArray) (w : World) (r : Except Nat (T × Nat)) (hp : PBox 133 w g s i false) (hi : i ≤ s.size) (hs : s.size ≤ 4096)
    (hkk : -9223372036854775808 ≤ kk ∧ kk ≤ 9223372036854775807) (hr : T.close s.data.toList kk cc (T.pkids s.data.toList (f + 1) n 0 i) = some r) :
    Calls Tryz.prog 152 #[.pointer (some ⟨g, 0, none⟩), .int .i64 kk, .int .i64 n, .string q] w (TermPost 133 g s w r) := by
  have hst1 := PSt.start hp
  have HGL := Lib.hid hp.lt
  have HT := Lib.hid ht
  have HQQ := Lib.hid hqq
  obtain ⟨i0, hi0, hz0, hz1, hz2⟩ := info_parts Tryz.infoT
  obtain ⟨rk, hrk⟩ : ∃ rk, T.pkids s.data.toList (f + 1) n 0 i = some rk := by
    cases h2 : T.pkids s.data.toList (f + 1) n 0 i with
    | none => rw [h2] at hr; simp [T.close] at hr
    | some rk => exact ⟨rk, rfl⟩
  obtain ⟨rt, hrt⟩ : ∃ rt, T.pterm s.data.toList f i = some rt := by
    cases h2 : T.pterm s.data.toList f i with
    | none => simp [T.pkids, h2] at hrk
    | some rt => exact ⟨rt, rfl⟩
  have HCLO := Lib.hid (show some r = T.close s.data.toList kk cc (some rk) by rw [← hrk]; exact hr.symm)
  have HRK0 := Lib.hid hrk; have HRT := Lib.hid hrt
  clear hp ht hqq hr hrk hrt
  go_enter Tryz.func152, Tryz.ntmps152
  go_upto_region 1 with fail
  generalize w.alloc (.cells #[.int .i64 0, .string ⟨#[]⟩, .slice none 0 0] 29) = w1 at hst1 ⊢
  have HST1 := Lib.hid hst1
  clear hst1
  go_wp2_with fail
  refine (HT.out f (Nat.le_refl _) g i s w1 rt HST1.out.1 hi hs HRT.out).mono ?_
  rintro e w2 ⟨hg2, hres⟩
  have hsh : ∃ (k0 : Int) (nm : ByteArray) (A3 : Option Addr) (n3 c3 : Nat), e = .returned (.agg #[.int .i64 k0, .string nm, .slice A3 n3 c3]) ∧
      ((∃ t j, rt = .ok (t, j) ∧ PBox 133 w2 g s j false ∧ TermIn (from_ w1.heap.size) w2 (.agg #[.int .i64 k0, .string nm, .slice A3 n3 c3]) t) ∨ (∃ j, rt = .error j ∧ PBox 133 w2 g s j true)) := by
    rcases rt with e4 | ⟨t, j⟩
    · obtain ⟨hp5, k0, nm, A3, n3, c3, he⟩ := hres
      exact ⟨k0, nm, A3, n3, c3, he, .inr ⟨e4, rfl, hp5⟩⟩
    · obtain ⟨hp5, A3, c3, he, hti⟩ := hres
      exact ⟨_, _, _, _, _, he, .inl ⟨t, j, rfl, hp5, hti⟩⟩
  obtain ⟨k0, nm, A3, n3, c3, rfl, hrs⟩ := hsh
  obtain ⟨hb1, hbx, hb3, hsz3⟩ := box_two w2 (.int .i64 k0) (.string nm) (.slice A3 n3 c3) (.int .i64 kk) (.string ⟨#[]⟩) (.slice (some ⟨w2.heap.size, 0, none⟩) 1 1)
  have HG2 := Lib.hid hg2; have HRS := Lib.hid hrs
  clear hg2 hres hrs
  go_wp2_with fail
  generalize (w2.alloc (.cells #[.int .i64 k0, .string nm, .slice A3 n3 c3] 29)).alloc (.cells #[.int .i64 kk, .string ⟨#[]⟩, .slice (some ⟨w2.heap.size, 0, none⟩) 1 1] 29) = w3 at hb1 hbx hb3 hsz3 ⊢
  have HX2 := Lib.hid (show w.heap.size + 1 ≤ w2.heap.size + 1 by have := HG2.out.size; have := HST1.out.2.2.2; omega)
  have hw12 : w.heap.size + 1 ≤ w2.heap.size := by have := HG2.out.size; have := HST1.out.2.2.2; omega
  have hstart : PartsAt g s n kk (w2.heap.size + 1) rk w (f + 1) w3 := by
    refine ⟨_, hbx, ?_⟩
    rcases HRS.out with ⟨t, j, hrt, hp2, hti⟩ | ⟨j, hrt, hp2⟩
    · left
      have hpt : T.pterm s.data.toList f i = some (.ok (t, j)) := by rw [← hrt]; exact HRT.out
      have hj := ((T.p_ok s.data.toList f).1 _ _ _ hpt).2.1
      rw [T.size_len] at hj
      have hrk := HRK0.out
      rw [T.pkids_after _ _ _ _ _ _ _ hpt] at hrk
      refine ⟨f, j, [t], rfl, ?_, fun h => h, hj, by simp; omega, ?_, fun b hb => ?_, (HST1.out.step HGL.out HG2.out hp2).later hb3⟩
      · rw [← hrk]; cases T.after s.data.toList f n (0 + 1) j with
        | none => rfl
        | some v => rcases v with _ | ⟨ks, j⟩ <;> rfl
      · refine .inr ⟨w2.heap.size, 1, rfl, #[.int .i64 k0, .string nm, .slice A3 n3 c3], ?_, rfl, by simp, by decide, by omega, fun i hi => ?_⟩
        · rw [only_get, show w3.heap[w2.heap.size]? = _ from hb1, Option.map_some, if_pos (notB_iff.2 (by omega))]
        · obtain rfl : i = 0 := by simpa using hi
          refine ⟨_, _, _, rfl, rfl, rfl, hti.keep fun b hb hl => ⟨but_iff.2 ⟨by have := of_decide_eq_true hb; have := HST1.out.2.2.2; omega, fun e => by have e' := Option.some.inj e; omega⟩, ?_⟩⟩
          have hnx : notB (w2.heap.size + 1) b = true := notB_iff.2 (by omega)
          rw [only_get, hb3.block b hl]; simp only [hnx, if_true]; cases w2.heap[b]? <;> rfl
      · have e : w2.heap.size = b := Option.some.inj hb; omega
    · right
      have hrk := HRK0.out
      rw [show T.pkids s.data.toList (f + 1) n 0 i = some (.error j) by simp only [T.pkids, HRT.out, hrt]] at hrk
      exact ⟨j, _, 1, _, by simpa using hrk.symm, rfl, by omega, (HST1.out.step HGL.out HG2.out hp2).later hb3⟩
  have HSTART := Lib.hid hstart
  clear hb1 hbx hb3 hsz3 hw12 hstart
  go_loopg [] (f + 1) (fun gk wr => PartsAt g s n kk (w2.heap.size + 1) rk w gk wr ∧ gk ≤ f + 1)
  case atStart => exact ⟨HSTART.out, Nat.le_refl _⟩
  case round =>
    obtain ⟨⟨kv, hbx, hcase⟩, hgk⟩ := hrel
    rcases hcase with ⟨fuel, m, acc, rfl, hrk, hle, hm, hcf, hrow, hkx, hst⟩ | ⟨m, A, k, cap, rfl, rfl, hk9, hst⟩
    · obtain ⟨x0, x1, x2⟩ := hst.1.cells
      obtain ⟨y0', y1', y2'⟩ := hbx.cells
      obtain ⟨A5', C5', hkv', hk1', hk2'⟩ := hrow.shape
      rw [hkv'] at y2'
      have HST := Lib.hid hst; have HBX := Lib.hid hbx; have HROW := Lib.hid hrow; have HKX := Lib.hid hkx; have HM := Lib.hid hm; have HCF := Lib.hid hcf; have HRK := Lib.hid hrk
      have HFU := Lib.hid (show fuel ≤ f by omega)
      have m0 : (0 : Int) ≤ (m : Int) := by omega
      by_cases hstop : (0 < n ∧ acc.length = n) ∨ (n = 0 ∧ T.now s.data.toList m 44 = false)
      · have HSTOP := Lib.hid hstop
        rcases hstop with ⟨hn0, hcn⟩ | ⟨hn0, hnow⟩
        · have HCN := Lib.hid hcn
          have n1 : ((n : Int) == 0) = false := by rw [beq_eq_false_iff_ne]; omega
          have l1 : decide ((acc.length : Int) < (n : Int)) = false := decide_eq_false (by omega)
          have l2 : decide (acc.length < n) = false := decide_eq_false (by omega)
          clear hst hbx hrow hkx hm hcf hrk hle hkv' hcn hn0
          go_upto_region 2 with fail
          go_quiet (fail)
          have HSTQ := Lib.hid (HST.out.drewN nq); have HBXQ := Lib.hid (show Box (wr.drewN nq) (w2.heap.size + 1) (.int .i64 kk) (.string ⟨#[]⟩) kv from HBX.out); have HROWQ := Lib.hid (show TermsRow (wr.drewN nq) (w.heap.size + 1) kv acc from HROW.out.unonly.keep fun _ _ _ => rfl)
          generalize wr.drewN nq = w3q at HSTQ HBXQ HROWQ ⊢
          obtain ⟨A5, C5, hkv, _, _⟩ := HROWQ.out.shape
          have hrk' : rk = .ok (acc, m) := by have h := HRK.out; unfold T.after at h; rw [if_pos HSTOP.out] at h; simpa [T.pre] using h
          have HRR := Lib.hid (show some r = T.close s.data.toList kk cc (some rk) from HCLO.out)
          subst hrk'; subst hkv
          have HTM := Lib.hid (HROWQ.out.term kk ⟨#[]⟩ hkk (by decide))
          clear x0 x1 x2 y0' y1' y2'
          go_wp2_with fail
          refine (rneed g m s q _ HSTQ.out.1 (by have := HM.out; omega) hs (by rw [HQQ.out]; exact Nat.le_of_ble_eq_true rfl)).mono ?_; rintro e w4 ⟨rfl, hg4, hs4⟩
          have hbx4 := HBXQ.out.grown hg4 (fun e => by have e' := Option.some.inj e; have := HGL.out; have := HX2.out; omega)
          obtain ⟨y0, y1, y2⟩ := hbx4.cells
          obtain ⟨j6, b6, hst6, hval⟩ : ∃ j6 b6, PSt 133 w g s w4 j6 b6 ∧ TermVal 133 w g s w4 (.int .i64 kk) (.string ⟨#[]⟩) (.slice A5 acc.length C5) r := by
            have hq := HRR.out
            rw [HQQ.out, show (⟨#[cc]⟩ : ByteArray).data.toList = [cc] from rfl] at hs4
            simp only [T.close] at hq
            cases hn : T.need s.data.toList [cc] m with
            | error e6 =>
              rw [hn] at hq hs4
              have hr' : r = .error e6 := by simpa using hq
              subst hr'
              exact ⟨e6, true, HSTQ.out.step HGL.out hg4 hs4, hs4, _, _, _, _, _, rfl, rfl, rfl⟩
            | ok j6 =>
              rw [hn] at hq hs4
              have hr' : r = .ok (.mk kk ⟨#[]⟩ acc, j6) := by simpa using hq
              subst hr'
              exact ⟨j6, false, HSTQ.out.step HGL.out hg4 hs4, hs4, A5, C5, rfl, rfl, rfl, HTM.out.keep fun b hb hl => ⟨hb, hg4.block b hl (fun e => by have e' := Option.some.inj e; have := HGL.out; have := of_decide_eq_true hb; omega)⟩⟩
          obtain ⟨z0, z1, z2⟩ := hst6.2.1.cells
          obtain ⟨k0', k1', k2'⟩ := hst6.2.1.free
          have HST6 := Lib.hid hst6; have HVAL := Lib.hid hval
          clear hg4 hs4 hbx4 hst6 hval
          go_wp2_with fail
          obtain ⟨d0, d1, d2⟩ := (box_set3 HST6.out.2.1 (.int .i64 kk) (.string ⟨#[]⟩) (.slice A5 acc.length C5)).cells
          refine bodyPost_ret (v := .agg #[.int .i64 kk, .string ⟨#[]⟩, .slice A5 acc.length C5]) (by simp [results, Tryz.results152, go_sem, d0, d1, d2]) rfl ?_
          exact HST6.out.ends HGL.out HVAL.out
        · have HN0 := Lib.hid hn0
          have n1 : ((n : Int) == 0) = true := by rw [beq_iff_eq]; omega
          have l1 : decide ((acc.length : Int) < (n : Int)) = false := decide_eq_false (by omega)
          have l2 : decide (acc.length < n) = false := decide_eq_false (by omega)
          clear hn0
          rcases Nat.lt_or_ge m s.size with g1 | g1
          · rw [T.now_at s m g1] at hnow
            obtain ⟨e1, e2⟩ := u8_ne hnow
            have e3 : ((s[m].toNat : Int) == 44) = false := e1
            have a1 : (m : Int) < (s.size : Int) := by omega
            clear hst hbx hrow hkx hm hcf hrk hle hkv' hnow e1 e2
            go_upto_region 2 with fail
            go_quiet (fail)
            have HSTQ := Lib.hid (HST.out.drewN nq); have HBXQ := Lib.hid (show Box (wr.drewN nq) (w2.heap.size + 1) (.int .i64 kk) (.string ⟨#[]⟩) kv from HBX.out); have HROWQ := Lib.hid (show TermsRow (wr.drewN nq) (w.heap.size + 1) kv acc from HROW.out.unonly.keep fun _ _ _ => rfl)
            generalize wr.drewN nq = w3q at HSTQ HBXQ HROWQ ⊢
            obtain ⟨A5, C5, hkv, _, _⟩ := HROWQ.out.shape
            have hrk' : rk = .ok (acc, m) := by have h := HRK.out; unfold T.after at h; rw [if_pos HSTOP.out] at h; simpa [T.pre] using h
            have HRR := Lib.hid (show some r = T.close s.data.toList kk cc (some rk) from HCLO.out)
            subst hrk'; subst hkv
            have HTM := Lib.hid (HROWQ.out.term kk ⟨#[]⟩ hkk (by decide))
            clear x0 x1 x2 y0' y1' y2'
            go_wp2_with fail
            refine (rneed g m s q _ HSTQ.out.1 (by have := HM.out; omega) hs (by rw [HQQ.out]; exact Nat.le_of_ble_eq_true rfl)).mono ?_; rintro e w4 ⟨rfl, hg4, hs4⟩
            have hbx4 := HBXQ.out.grown hg4 (fun e => by have e' := Option.some.inj e; have := HGL.out; have := HX2.out; omega)
            obtain ⟨y0, y1, y2⟩ := hbx4.cells
            obtain ⟨j6, b6, hst6, hval⟩ : ∃ j6 b6, PSt 133 w g s w4 j6 b6 ∧ TermVal 133 w g s w4 (.int .i64 kk) (.string ⟨#[]⟩) (.slice A5 acc.length C5) r := by
              have hq := HRR.out
              rw [HQQ.out, show (⟨#[cc]⟩ : ByteArray).data.toList = [cc] from rfl] at hs4
              simp only [T.close] at hq
              cases hn : T.need s.data.toList [cc] m with
              | error e6 =>
                rw [hn] at hq hs4
                have hr' : r = .error e6 := by simpa using hq
                subst hr'
                exact ⟨e6, true, HSTQ.out.step HGL.out hg4 hs4, hs4, _, _, _, _, _, rfl, rfl, rfl⟩
              | ok j6 =>
                rw [hn] at hq hs4
                have hr' : r = .ok (.mk kk ⟨#[]⟩ acc, j6) := by simpa using hq
                subst hr'
                exact ⟨j6, false, HSTQ.out.step HGL.out hg4 hs4, hs4, A5, C5, rfl, rfl, rfl, HTM.out.keep fun b hb hl => ⟨hb, hg4.block b hl (fun e => by have e' := Option.some.inj e; have := HGL.out; have := of_decide_eq_true hb; omega)⟩⟩
            obtain ⟨z0, z1, z2⟩ := hst6.2.1.cells
            obtain ⟨k0', k1', k2'⟩ := hst6.2.1.free
            have HST6 := Lib.hid hst6; have HVAL := Lib.hid hval
            clear hg4 hs4 hbx4 hst6 hval
            go_wp2_with fail
            obtain ⟨d0, d1, d2⟩ := (box_set3 HST6.out.2.1 (.int .i64 kk) (.string ⟨#[]⟩) (.slice A5 acc.length C5)).cells
            refine bodyPost_ret (v := .agg #[.int .i64 kk, .string ⟨#[]⟩, .slice A5 acc.length C5]) (by simp [results, Tryz.results152, go_sem, d0, d1, d2]) rfl ?_
            exact HST6.out.ends HGL.out HVAL.out
          · have a1 : decide ((m : Int) < (s.size : Int)) = false := decide_eq_false (by omega)
            have a2 : decide (m < s.size) = false := decide_eq_false (by omega)
            have a3 : (s.size : Int) ≤ (m : Int) := by omega
            clear hst hbx hrow hkx hm hcf hrk hle hkv' hnow
            go_upto_region 2 with fail
            go_quiet (fail)
            have HSTQ := Lib.hid (HST.out.drewN nq); have HBXQ := Lib.hid (show Box (wr.drewN nq) (w2.heap.size + 1) (.int .i64 kk) (.string ⟨#[]⟩) kv from HBX.out); have HROWQ := Lib.hid (show TermsRow (wr.drewN nq) (w.heap.size + 1) kv acc from HROW.out.unonly.keep fun _ _ _ => rfl)
            generalize wr.drewN nq = w3q at HSTQ HBXQ HROWQ ⊢
            obtain ⟨A5, C5, hkv, _, _⟩ := HROWQ.out.shape
            have hrk' : rk = .ok (acc, m) := by have h := HRK.out; unfold T.after at h; rw [if_pos HSTOP.out] at h; simpa [T.pre] using h
            have HRR := Lib.hid (show some r = T.close s.data.toList kk cc (some rk) from HCLO.out)
            subst hrk'; subst hkv
            have HTM := Lib.hid (HROWQ.out.term kk ⟨#[]⟩ hkk (by decide))
            clear x0 x1 x2 y0' y1' y2'
            go_wp2_with fail
            refine (rneed g m s q _ HSTQ.out.1 (by have := HM.out; omega) hs (by rw [HQQ.out]; exact Nat.le_of_ble_eq_true rfl)).mono ?_; rintro e w4 ⟨rfl, hg4, hs4⟩
            have hbx4 := HBXQ.out.grown hg4 (fun e => by have e' := Option.some.inj e; have := HGL.out; have := HX2.out; omega)
            obtain ⟨y0, y1, y2⟩ := hbx4.cells
            obtain ⟨j6, b6, hst6, hval⟩ : ∃ j6 b6, PSt 133 w g s w4 j6 b6 ∧ TermVal 133 w g s w4 (.int .i64 kk) (.string ⟨#[]⟩) (.slice A5 acc.length C5) r := by
              have hq := HRR.out
              rw [HQQ.out, show (⟨#[cc]⟩ : ByteArray).data.toList = [cc] from rfl] at hs4
              simp only [T.close] at hq
              cases hn : T.need s.data.toList [cc] m with
              | error e6 =>
                rw [hn] at hq hs4
                have hr' : r = .error e6 := by simpa using hq
                subst hr'
                exact ⟨e6, true, HSTQ.out.step HGL.out hg4 hs4, hs4, _, _, _, _, _, rfl, rfl, rfl⟩
              | ok j6 =>
                rw [hn] at hq hs4
                have hr' : r = .ok (.mk kk ⟨#[]⟩ acc, j6) := by simpa using hq
                subst hr'
                exact ⟨j6, false, HSTQ.out.step HGL.out hg4 hs4, hs4, A5, C5, rfl, rfl, rfl, HTM.out.keep fun b hb hl => ⟨hb, hg4.block b hl (fun e => by have e' := Option.some.inj e; have := HGL.out; have := of_decide_eq_true hb; omega)⟩⟩
            obtain ⟨z0, z1, z2⟩ := hst6.2.1.cells
            obtain ⟨k0', k1', k2'⟩ := hst6.2.1.free
            have HST6 := Lib.hid hst6; have HVAL := Lib.hid hval
            clear hg4 hs4 hbx4 hst6 hval
            go_wp2_with fail
            obtain ⟨d0, d1, d2⟩ := (box_set3 HST6.out.2.1 (.int .i64 kk) (.string ⟨#[]⟩) (.slice A5 acc.length C5)).cells
            refine bodyPost_ret (v := .agg #[.int .i64 kk, .string ⟨#[]⟩, .slice A5 acc.length C5]) (by simp [results, Tryz.results152, go_sem, d0, d1, d2]) rfl ?_
            exact HST6.out.ends HGL.out HVAL.out
      · have HGO := Lib.hid hstop
        have HLT := Lib.hid (show 0 < n → acc.length < n from fun h => by have := hle h; have : acc.length ≠ n := fun e => hstop (.inl ⟨h, e⟩); omega)
        by_cases hn0 : n = 0
        · have HN0 := Lib.hid hn0
          have n1 : ((n : Int) == 0) = true := by rw [beq_iff_eq]; omega
          have l1 : decide ((acc.length : Int) < (n : Int)) = false := decide_eq_false (by omega)
          have l2 : decide (acc.length < n) = false := decide_eq_false (by omega)
          have hnow : T.now s.data.toList m 44 = true := by
            rcases Bool.eq_false_or_eq_true (T.now s.data.toList m 44) with h | h
            · exact h
            · exact absurd (.inr ⟨hn0, h⟩) hstop
          have g1 : m < s.size := by have := T.now_lt hnow; rw [T.size_len] at this; exact this
          rw [T.now_at s m g1] at hnow
          obtain ⟨e1, e2⟩ := u8_eq hnow
          have e3 : ((s[m].toNat : Int) == 44) = true := e1
          have a1 : (m : Int) < (s.size : Int) := by omega
          clear hst hbx hrow hkx hm hcf hrk hle hkv' hnow hstop e1 e2 hn0
          obtain ⟨nx0, hnx0⟩ : ∃ nx, T.need s.data.toList [44, 32] m = nx := ⟨_, rfl⟩
          have HNX := Lib.hid hnx0
          clear hnx0
          go_upto_region 2 with fail
          go_quiet (fail)
          have HSTQ := Lib.hid (HST.out.drewN nq); have HBXQ := Lib.hid (show Box (wr.drewN nq) (w2.heap.size + 1) (.int .i64 kk) (.string ⟨#[]⟩) kv from HBX.out); have HROWQ := Lib.hid (show TermsRow (only (wr.drewN nq) (notB (w2.heap.size + 1))) (w.heap.size + 1) kv acc from HROW.out.keep fun _ _ _ => rfl)
          generalize wr.drewN nq = w3q at HSTQ HBXQ HROWQ ⊢
          go_wp2_with fail
          refine (rneed g m s ⟨#[44, 32]⟩ _ HSTQ.out.1 (by have := HM.out; omega) hs (by decide)).mono ?_; rintro e w4 ⟨rfl, hg4, hs4⟩
          rw [show (⟨#[44, 32]⟩ : ByteArray).data.toList = [44, 32] from rfl, HNX.out] at hs4
          have hbx4 := HBXQ.out.grown hg4 (fun e => by have e' := Option.some.inj e; have := HGL.out; have := HX2.out; omega)
          have hrow4 : TermsRow (only w4 (notB (w2.heap.size + 1))) (w.heap.size + 1) kv acc := HROWQ.out.keep fun b hb hl => (only_grown hg4 _).block b hl (fun e => by have e' := Option.some.inj e; have := HGL.out; omega)
          obtain ⟨A5, C5, hkv, hk1, hk2⟩ := hrow4.shape
          obtain ⟨xs, hownX, hct⟩ := hrow4.owns
          have hown4 := unonly_owns hownX (by decide)
          have hcall : ∃ (j4 : Nat) (b4 : Bool), PSt 133 w g s w4 j4 b4 ∧ Calls Tryz.prog 121 #[.pointer (some ⟨g, 0, none⟩)] w4.drew fun e w' => ∃ (k0 : Int) (nm : ByteArray) (A3 : Option Addr) (n3 c3 : Nat), e = .returned (.agg #[.int .i64 k0, .string nm, .slice A3 n3 c3]) ∧ w4.grownBy w' (some g) ∧ NextF g s n acc rk fuel w4 w' k0 nm A3 n3 c3 := by
            have hrq := HRK.out
            unfold T.after at hrq
            rw [if_neg HGO.out, HNX.out] at hrq
            rcases nx0 with e4 | j4
            · have hrk' : rk = .error e4 := by simpa [T.pre] using hrq
              have hst4 := HSTQ.out.step HGL.out hg4 hs4
              refine ⟨e4, true, hst4, (rterm_wrong g e4 s w4.drew hs4).mono ?_⟩
              rintro e w' ⟨hgr, hp5, k0, nm, A3, n3, c3, he⟩
              exact ⟨k0, nm, A3, n3, c3, he, ⟨hgr.os, hgr.tape, hgr.output, hgr.size, hgr.block⟩, .inr ⟨e4, hrk', hp5⟩⟩
            · have hst4 := HSTQ.out.step HGL.out hg4 hs4
              replace hrq : some rk = T.pre acc (T.pkids s.data.toList fuel n acc.length j4) := hrq
              have hj4 : j4 ≤ s.size := by have := (T.need_ok _ _ _ HNX.out).2 (by simp); rw [T.size_len] at this; exact this
              cases hfu : fuel with
              | zero => rw [hfu] at hrq; simp [T.pkids, T.pre] at hrq
              | succ fu =>
                rw [hfu] at hrq
                cases hpt : T.pterm s.data.toList fu j4 with
                | none => simp [T.pkids, hpt, T.pre] at hrq
                | some rt =>
                  refine ⟨j4, false, hst4, (HT.out fu (by have := HFU.out; omega) g j4 s w4.drew rt hs4 hj4 hs hpt).mono ?_⟩
                  rintro e w' ⟨hgr, hres⟩
                  rcases rt with e5 | ⟨t, j5⟩
                  · obtain ⟨hp5, k0, nm, A3, n3, c3, he⟩ := hres
                    exact ⟨k0, nm, A3, n3, c3, he, ⟨hgr.os, hgr.tape, hgr.output, hgr.size, hgr.block⟩, .inr ⟨e5, by simpa [T.pkids, hpt, T.pre] using hrq, hp5⟩⟩
                  · obtain ⟨hp5, A3, c3, he, hti⟩ := hres
                    have hj5 := ((T.p_ok s.data.toList fu).1 _ _ _ hpt).2.1
                    rw [T.size_len] at hj5
                    refine ⟨_, _, _, _, _, he, ⟨hgr.os, hgr.tape, hgr.output, hgr.size, hgr.block⟩, .inl ⟨t, j5, fu, rfl, ?_, hj5, by have := HCF.out; omega, hp5, hti⟩⟩
                    rw [T.pkids_after _ _ _ _ _ _ _ hpt, T.pre_more] at hrq
                    simpa using hrq
          obtain ⟨j4, b4, hst4, hcl⟩ := hcall
          have HCL := Lib.hid hcl
          have hblk : ∀ b, kv.ownBlock = some b → w.heap.size + 1 ≤ b ∧ b < w4.heap.size := fun b hb => by have := hrow4.block b hb; rw [only_size] at this; exact this
          have HSTEP := Lib.hid (fun (w5 w6 : World) (g4 cap4 : Nat) (k0 : Int) (nm : ByteArray) (A3 : Option Addr) (n3 c3 : Nat) => parts_step (g := g) (n := n) (x := w2.heap.size + 1) (gk := fuel) (g4 := g4) (cap4 := cap4) (c := acc.length) (kk := kk) (k0 := k0) (nm := nm) (A3 := A3) (n3 := n3) (c3 := c3) (w5 := w5) (w6 := w6) (rk := rk) HGL.out HX2.out hbx4 hrow4 HKX.out hst4 rfl hownX.1 hct HLT.out (by have := HCF.out; omega))
          have HOWN4 := Lib.hid hown4; have HBLK := Lib.hid hblk; have HBX4 := Lib.hid hbx4; have HST4 := Lib.hid hst4
          have HC1 := Lib.hid (show acc.length + 1 ≤ maxLen by have := HCF.out; unfold maxLen; omega)
          have HC2 := Lib.hid (show (acc.length + 1) * 48 ≤ 140737488355328 by have := HCF.out; omega)
          obtain ⟨y0, y1, y2⟩ := hbx4.cells
          have HKXN := Lib.hid (show kv.ownBlock ≠ some (w2.heap.size + 1) from fun e => HKX.out _ e rfl)
          have HXG := Lib.hid (show some g ≠ some (w2.heap.size + 1) from fun e => by have e' := Option.some.inj e; have := HGL.out; have := HX2.out; omega)
          clear hg4 hs4 hbx4 hrow4 hkv hk1 hk2 hownX hct hown4 hcl hblk hst4 x0 x1 x2 y0' y1' y2'
          go_upto_region 4 with fail
          go_region_law (first | (refine step_append_lies _ (by rfl) _ _ _ (by rfl) (w.heap.size + 1) 29 i0 _ 3 48 Tryz.underlying27 hi0 hz0 hz1 hz2 rfl (by omega) _ acc.length _ (by rfl) HOWN5.out ⟨_, 0, none⟩ 1 1 _ (by rfl) (by rfl) (World.news_of_block (heap_alloc_new _ _)) HONE.out (by omega) HC1.out HC2.out HBS.out _ rfl ?_; intro g4 cap4 w6 hown6 hg6 hat6 hlt6; have HB6 := ((HBX4.out.grown hg5 HXG.out).later (below_alloc1 w5 _)).grown hg6 HKXN.out; have c6 := HB6.cells.2.2; have f6 := HB6.free.2.2) | (go_simp; go_at_call 121; refine HCL.out.mono ?_; rintro e w5 ⟨k0, nm, A3, n3, c3, rfl, hg5, hF5⟩; have z2 := (HBX4.out.grown hg5 HXG.out).cells.2.2; have zz2 := cell_later (below_alloc1 w5 (.cells #[.int .i64 k0, .string nm, .slice A3 n3 c3] 29)) z2; have HOWN5 := Lib.hid ((HOWN4.out.kept hg5 (by rcases hh : kv.ownBlock with _ | b; exact .inl rfl; right; intro e; have := (HBLK.out b hh).1; have := HGL.out; have e' := Option.some.inj e; omega)).alloc (.cells #[.int .i64 k0, .string nm, .slice A3 n3 c3] 29)); have HONE := Lib.hid (show ∀ u ∈ [Value.int .i64 k0, .string nm, .slice A3 n3 c3], u.oneCell' = true from fun u hu => by simp at hu; rcases hu with rfl | rfl | rfl <;> rfl); have HBS := Lib.hid (show w.heap.size + 1 ≤ (w5.alloc (.cells #[.int .i64 k0, .string nm, .slice A3 n3 c3] 29)).heap.size by rw [size_alloc1]; have := hg5.size; have := HST4.out.2.2.2; omega)))
          all_goals
            have hfin := HSTEP.out w5 w6 g4 cap4 k0 nm A3 n3 c3 hg5 hF5 hown6 hg6 (hat6.imp id (fun h => h.trans (size_alloc1 _ _)))
            have HFIN := Lib.hid hfin
            clear hfin hg5 hF5 hown6 hg6 hat6 hlt6 HB6 c6 f6 z2 zz2
            go_wp2_with fail
            go_roundg fuel
            case measure => omega
            case rel => exact ⟨HFIN.out, by have := HFU.out; omega⟩
        · have hlt' := HLT.out (by omega)
          have n1 : ((n : Int) == 0) = false := by rw [beq_eq_false_iff_ne]; omega
          have l0 : (acc.length : Int) < (n : Int) := by omega
          have l1 : decide ((acc.length : Int) < (n : Int)) = true := decide_eq_true (by omega)
          have l2 : decide (acc.length < n) = true := decide_eq_true (by omega)
          clear hst hbx hrow hkx hm hcf hrk hle hkv' hstop hn0 hlt'
          obtain ⟨nx0, hnx0⟩ : ∃ nx, T.need s.data.toList [44, 32] m = nx := ⟨_, rfl⟩
          have HNX := Lib.hid hnx0
          clear hnx0
          go_upto_region 2 with fail
          go_quiet (fail)
          have HSTQ := Lib.hid (HST.out.drewN nq); have HBXQ := Lib.hid (show Box (wr.drewN nq) (w2.heap.size + 1) (.int .i64 kk) (.string ⟨#[]⟩) kv from HBX.out); have HROWQ := Lib.hid (show TermsRow (only (wr.drewN nq) (notB (w2.heap.size + 1))) (w.heap.size + 1) kv acc from HROW.out.keep fun _ _ _ => rfl)
          generalize wr.drewN nq = w3q at HSTQ HBXQ HROWQ ⊢
          go_wp2_with fail
          refine (rneed g m s ⟨#[44, 32]⟩ _ HSTQ.out.1 (by have := HM.out; omega) hs (by decide)).mono ?_; rintro e w4 ⟨rfl, hg4, hs4⟩
          rw [show (⟨#[44, 32]⟩ : ByteArray).data.toList = [44, 32] from rfl, HNX.out] at hs4
          have hbx4 := HBXQ.out.grown hg4 (fun e => by have e' := Option.some.inj e; have := HGL.out; have := HX2.out; omega)
          have hrow4 : TermsRow (only w4 (notB (w2.heap.size + 1))) (w.heap.size + 1) kv acc := HROWQ.out.keep fun b hb hl => (only_grown hg4 _).block b hl (fun e => by have e' := Option.some.inj e; have := HGL.out; omega)
          obtain ⟨A5, C5, hkv, hk1, hk2⟩ := hrow4.shape
          obtain ⟨xs, hownX, hct⟩ := hrow4.owns
          have hown4 := unonly_owns hownX (by decide)
          have hcall : ∃ (j4 : Nat) (b4 : Bool), PSt 133 w g s w4 j4 b4 ∧ Calls Tryz.prog 121 #[.pointer (some ⟨g, 0, none⟩)] w4.drew fun e w' => ∃ (k0 : Int) (nm : ByteArray) (A3 : Option Addr) (n3 c3 : Nat), e = .returned (.agg #[.int .i64 k0, .string nm, .slice A3 n3 c3]) ∧ w4.grownBy w' (some g) ∧ NextF g s n acc rk fuel w4 w' k0 nm A3 n3 c3 := by
            have hrq := HRK.out
            unfold T.after at hrq
            rw [if_neg HGO.out, HNX.out] at hrq
            rcases nx0 with e4 | j4
            · have hrk' : rk = .error e4 := by simpa [T.pre] using hrq
              have hst4 := HSTQ.out.step HGL.out hg4 hs4
              refine ⟨e4, true, hst4, (rterm_wrong g e4 s w4.drew hs4).mono ?_⟩
              rintro e w' ⟨hgr, hp5, k0, nm, A3, n3, c3, he⟩
              exact ⟨k0, nm, A3, n3, c3, he, ⟨hgr.os, hgr.tape, hgr.output, hgr.size, hgr.block⟩, .inr ⟨e4, hrk', hp5⟩⟩
            · have hst4 := HSTQ.out.step HGL.out hg4 hs4
              replace hrq : some rk = T.pre acc (T.pkids s.data.toList fuel n acc.length j4) := hrq
              have hj4 : j4 ≤ s.size := by have := (T.need_ok _ _ _ HNX.out).2 (by simp); rw [T.size_len] at this; exact this
              cases hfu : fuel with
              | zero => rw [hfu] at hrq; simp [T.pkids, T.pre] at hrq
              | succ fu =>
                rw [hfu] at hrq
                cases hpt : T.pterm s.data.toList fu j4 with
                | none => simp [T.pkids, hpt, T.pre] at hrq
                | some rt =>
                  refine ⟨j4, false, hst4, (HT.out fu (by have := HFU.out; omega) g j4 s w4.drew rt hs4 hj4 hs hpt).mono ?_⟩
                  rintro e w' ⟨hgr, hres⟩
                  rcases rt with e5 | ⟨t, j5⟩
                  · obtain ⟨hp5, k0, nm, A3, n3, c3, he⟩ := hres
                    exact ⟨k0, nm, A3, n3, c3, he, ⟨hgr.os, hgr.tape, hgr.output, hgr.size, hgr.block⟩, .inr ⟨e5, by simpa [T.pkids, hpt, T.pre] using hrq, hp5⟩⟩
                  · obtain ⟨hp5, A3, c3, he, hti⟩ := hres
                    have hj5 := ((T.p_ok s.data.toList fu).1 _ _ _ hpt).2.1
                    rw [T.size_len] at hj5
                    refine ⟨_, _, _, _, _, he, ⟨hgr.os, hgr.tape, hgr.output, hgr.size, hgr.block⟩, .inl ⟨t, j5, fu, rfl, ?_, hj5, by have := HCF.out; omega, hp5, hti⟩⟩
                    rw [T.pkids_after _ _ _ _ _ _ _ hpt, T.pre_more] at hrq
                    simpa using hrq
          obtain ⟨j4, b4, hst4, hcl⟩ := hcall
          have HCL := Lib.hid hcl
          have hblk : ∀ b, kv.ownBlock = some b → w.heap.size + 1 ≤ b ∧ b < w4.heap.size := fun b hb => by have := hrow4.block b hb; rw [only_size] at this; exact this
          have HSTEP := Lib.hid (fun (w5 w6 : World) (g4 cap4 : Nat) (k0 : Int) (nm : ByteArray) (A3 : Option Addr) (n3 c3 : Nat) => parts_step (g := g) (n := n) (x := w2.heap.size + 1) (gk := fuel) (g4 := g4) (cap4 := cap4) (c := acc.length) (kk := kk) (k0 := k0) (nm := nm) (A3 := A3) (n3 := n3) (c3 := c3) (w5 := w5) (w6 := w6) (rk := rk) HGL.out HX2.out hbx4 hrow4 HKX.out hst4 rfl hownX.1 hct HLT.out (by have := HCF.out; omega))
          have HOWN4 := Lib.hid hown4; have HBLK := Lib.hid hblk; have HBX4 := Lib.hid hbx4; have HST4 := Lib.hid hst4
          have HC1 := Lib.hid (show acc.length + 1 ≤ maxLen by have := HCF.out; unfold maxLen; omega)
          have HC2 := Lib.hid (show (acc.length + 1) * 48 ≤ 140737488355328 by have := HCF.out; omega)
          obtain ⟨y0, y1, y2⟩ := hbx4.cells
          have HKXN := Lib.hid (show kv.ownBlock ≠ some (w2.heap.size + 1) from fun e => HKX.out _ e rfl)
          have HXG := Lib.hid (show some g ≠ some (w2.heap.size + 1) from fun e => by have e' := Option.some.inj e; have := HGL.out; have := HX2.out; omega)
          clear hg4 hs4 hbx4 hrow4 hkv hk1 hk2 hownX hct hown4 hcl hblk hst4 x0 x1 x2 y0' y1' y2'
          go_upto_region 4 with fail
          go_region_law (first | (refine step_append_lies _ (by rfl) _ _ _ (by rfl) (w.heap.size + 1) 29 i0 _ 3 48 Tryz.underlying27 hi0 hz0 hz1 hz2 rfl (by omega) _ acc.length _ (by rfl) HOWN5.out ⟨_, 0, none⟩ 1 1 _ (by rfl) (by rfl) (World.news_of_block (heap_alloc_new _ _)) HONE.out (by omega) HC1.out HC2.out HBS.out _ rfl ?_; intro g4 cap4 w6 hown6 hg6 hat6 hlt6; have HB6 := ((HBX4.out.grown hg5 HXG.out).later (below_alloc1 w5 _)).grown hg6 HKXN.out; have c6 := HB6.cells.2.2; have f6 := HB6.free.2.2) | (go_simp; go_at_call 121; refine HCL.out.mono ?_; rintro e w5 ⟨k0, nm, A3, n3, c3, rfl, hg5, hF5⟩; have z2 := (HBX4.out.grown hg5 HXG.out).cells.2.2; have zz2 := cell_later (below_alloc1 w5 (.cells #[.int .i64 k0, .string nm, .slice A3 n3 c3] 29)) z2; have HOWN5 := Lib.hid ((HOWN4.out.kept hg5 (by rcases hh : kv.ownBlock with _ | b; exact .inl rfl; right; intro e; have := (HBLK.out b hh).1; have := HGL.out; have e' := Option.some.inj e; omega)).alloc (.cells #[.int .i64 k0, .string nm, .slice A3 n3 c3] 29)); have HONE := Lib.hid (show ∀ u ∈ [Value.int .i64 k0, .string nm, .slice A3 n3 c3], u.oneCell' = true from fun u hu => by simp at hu; rcases hu with rfl | rfl | rfl <;> rfl); have HBS := Lib.hid (show w.heap.size + 1 ≤ (w5.alloc (.cells #[.int .i64 k0, .string nm, .slice A3 n3 c3] 29)).heap.size by rw [size_alloc1]; have := hg5.size; have := HST4.out.2.2.2; omega)))
          all_goals
            have hfin := HSTEP.out w5 w6 g4 cap4 k0 nm A3 n3 c3 hg5 hF5 hown6 hg6 (hat6.imp id (fun h => h.trans (size_alloc1 _ _)))
            have HFIN := Lib.hid hfin
            clear hfin hg5 hF5 hown6 hg6 hat6 hlt6 HB6 c6 f6 z2 zz2
            go_wp2_with fail
            go_roundg fuel
            case measure => omega
            case rel => exact ⟨HFIN.out, by have := HFU.out; omega⟩
    · obtain ⟨x0, x1, x2⟩ := hst.1.cells
      have HST := Lib.hid hst; have HBX := Lib.hid hbx
      have hr' : r = .error m := by have h := HCLO.out; simpa [T.close] using h
      subst hr'
      clear hst hbx
      go_upto_region 2 with fail
      go_quiet (fail)
      have HSTQ := Lib.hid (HST.out.drewN nq); have HBXQ := Lib.hid (show Box (wr.drewN nq) (w2.heap.size + 1) (.int .i64 kk) (.string ⟨#[]⟩) (.slice A k cap) from HBX.out)
      generalize wr.drewN nq = w3q at HSTQ HBXQ ⊢
      clear x0 x1 x2
      have HQ2 := Lib.hid (fun W (h : PBox 133 W g s m true) => rneed_wrong g m s cc [] W h)
      rw [show (⟨[cc].toArray⟩ : ByteArray) = q from HQQ.out.symm] at HQ2
      go_wp2_with fail
      refine (HQ2.out _ HSTQ.out.1).mono ?_; rintro e w4 ⟨rfl, rfl⟩
      obtain ⟨y0, y1, y2⟩ := HBXQ.out.cells
      obtain ⟨z0, z1, z2⟩ := HSTQ.out.2.1.cells
      obtain ⟨k0', k1', k2'⟩ := HSTQ.out.2.1.free
      go_wp2_with fail
      obtain ⟨d0, d1, d2⟩ := (box_set3 HSTQ.out.2.1 (.int .i64 kk) (.string ⟨#[]⟩) (.slice A k cap)).cells
      refine bodyPost_ret (v := .agg #[.int .i64 kk, .string ⟨#[]⟩, .slice A k cap]) (by simp [results, Tryz.results152, go_sem, d0, d1, d2]) rfl ?_
      exact HSTQ.out.ends HGL.out ⟨HSTQ.out.1, _, _, _, _, _, rfl, rfl, rfl⟩
end Go.Proofs.YtihbmgkbipeakaaGreat
