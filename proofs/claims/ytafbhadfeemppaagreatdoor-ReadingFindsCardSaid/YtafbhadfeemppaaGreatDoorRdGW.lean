/- Chapter 12: several texts in one (RdRange, RdChunk). -/
import Derived.Test.YtafbhadfeemppaaGreatDoorUtil
import Derived.RangeFuncNested
import Derived.RangeFuncBound
import Derived.RangeFuncCalls
import Derived.RangeFuncLeaves
import Derived.Shelf.Abstract
import Derived.Shelf.RegionOpen
import Derived.WalkKit
import Derived.OwnWalkIn
import Derived.TacticsInMore
import Derived.LoopNIn
import Derived.LoopIn
import Derived.Test.YtafbhadfeemppaaGreatDoorRows
namespace Go.Proofs.YtafbhadfeemppaaGreatDoor
open Go.RowKit Go.Shelf

/-- Blocks below H, but for one, lie as they lay. -/
def Kept (H B : Nat) (W W' : World) : Prop := ∀ b, b < H → b ≠ B → W'.heap[b]? = W.heap[b]?
theorem Kept.refl (H B : Nat) (W : World) : Kept H B W W := fun _ _ _ => rfl
theorem Kept.trans {H B : Nat} {X Y Z : World} (h : Kept H B X Y) (k : Kept H B Y Z) : Kept H B X Z := fun b h1 h2 => (k b h1 h2).trans (h b h1 h2)
theorem Kept.of_below {H B : Nat} {W W' : World} (h : Below W.heap.size W W') (hH : H ≤ W.heap.size) : Kept H B W W' := fun b h1 _ => h.block b (Nat.lt_of_lt_of_le h1 hH)
theorem Kept.cell {H B : Nat} {W W' : World} (h : Kept H B W W') {b o : Nat} (h1 : b < H) (h2 : b ≠ B) : W'.cell? ⟨b, o, none⟩ = W.cell? ⟨b, o, none⟩ := World.cell?_of_block (a := ⟨b, o, none⟩) (h b h1 h2)
theorem Kept.frozen {H B : Nat} {W W' : World} (h : Kept H B W W') {b o : Nat} (h1 : b < H) (h2 : b ≠ B) : W'.frozen? ⟨b, o, none⟩ = W.frozen? ⟨b, o, none⟩ := World.frozen?_of_block (a := ⟨b, o, none⟩) (h b h1 h2)
theorem yield_any {m m' : Nat} {P : Program} {l : Nat} {args : Array Value} {W : World} {R : Ending → World → Prop} (h : YieldAt Fence.wide m P l args W R) : YieldAt Fence.wide m' P l args W R := by
  obtain ⟨fn, tmps, assign, body, hy, hF, hR⟩ := h
  exact ⟨fn, tmps, assign, body, hy, hF, fun c cs _ => hR c cs (room_wide _)⟩
/-- What a round leaves: it goes on; what lay below H lies on, but for block B. -/
def roundEnd (H B : Nat) (Q : World → Prop) (W : World) : Exit → Act → World → Prop
  | .normal, _, W' => Kept H B W W' ∧ KeepsOthers W W' ∧ Q W'
  | _, _, _ => False
/-- The contract of an iterator that makes N rounds: H bounds the blocks that it has laid before the first one; it writes into blocks from b0 to H. -/
def IterN (m : Nat) (P : Program) (gf : Nat) (lb : Array Value) (N B : Nat) (Arg : Nat → Nat → Value → World → Prop) (l : Nat) (W1 : World) : Prop :=
  ∀ J : Nat → Nat → World → Prop,
    (∀ H k W W', J H k W → Below W.heap.size W W' → J H k W') →
    (∀ H k W T i v, J H k W → W1.heap.size ≤ T → T < H → J H k (W.setCell ⟨T, i, none⟩ v)) →
    (∀ H k W l' o o', J H k W → W1.heap.size ≤ l' → W.heap[l']? = some o → o.isCells = false → J H k (W.putObj l' o')) →
    (∀ H W', Below W1.heap.size W1 W' → W1.heap.size ≤ H → H ≤ W'.heap.size → J H 0 W') →
    (∀ H k v W2, W1.heap.size ≤ H → H ≤ W2.heap.size → k < N → Arg H k v W2 → J H k W2 → YieldAt Fence.wide m P l #[v] W2 fun e W' => e = .returned (.bool true) ∧ J H (k + 1) W' ∧ Kept H B W2 W' ∧ KeepsOthers W2 W') →
    CallsIn Fence.wide m P gf (#[.func (.yield l) #[] #[]] ++ lb) W1 fun e W' => (∃ v, e = .returned v) ∧ ∃ H, W1.heap.size ≤ H ∧ H ≤ W'.heap.size ∧ J H N W'
theorem wp_range {P : Program} {g : Operand} {p : Tmp} {assign body : Code} {Q : Exit → Act → World → Prop} {a : Act} {w : World} (m : Nat)
    {gf : Nat} {lb : Array Value} (hg : a.eval g = .func (.func gf) #[] lb) (eg : ∀ args w, (callFunc gf args).run P w = .ok (.enter gf args) w)
    (N B : Nat) (hB : B < w.heap.size) (Arg : Nat → Nat → Value → World → Prop) (I : Nat → Nat → World → Prop)
    (hseq : ∀ W1, Below w.heap.size w W1 → W1.heap.size = w.heap.size + 2 → IterN m P gf lb N B Arg (w.heap.size + 1) W1)
    (hArg : ∀ (H k : Nat) (v : Value) (W W' : World), Arg H k v W → (∀ (b : Nat) (c : Array Value) (e : TypeId) (f : Nat × Nat), W.heap[b]? = some (Obj.cells c e f) → W'.heap[b]? = W.heap[b]?) → Arg H k v W')
    (hIb : ∀ H k W W', I H k W → Below W.heap.size W W' → I H k W')
    (hIs : ∀ H k W T i v, I H k W → w.heap.size ≤ T → T < H → I H k (W.setCell ⟨T, i, none⟩ v))
    (hIp : ∀ H k W l o o', I H k W → w.heap.size ≤ l → W.heap[l]? = some o → o.isCells = false → I H k (W.putObj l o'))
    (hI0 : ∀ H W', Below w.heap.size w W' → w.heap.size ≤ H → H ≤ W'.heap.size → I H 0 W')
    (hround : ∀ H k v W2 W2', w.heap.size + 2 ≤ H → H ≤ W2.heap.size → k < N → Arg H k v W2 → I H k W2 → W2'.heap.size = W2.heap.size →
      assign.wpIn (Fence.wide.inRound (w.heap.size + 1)) m P (Exit.then (fun a₁ w₁ => w₁ = W2 ∧ (Arg H k v W2' → I H k W2' → body.wpIn (Fence.wide.inRound (w.heap.size + 1)) m P (roundEnd H B (I H (k + 1)) W2') a₁ W2')) (fun _ _ _ => False))
        { tmps := a.tmps.setIfInBounds p v, defers := [] } W2)
    (hdone : ∀ D H W, w.heap.size ≤ D → D < H → H ≤ W.heap.size → I H N W → W.heap[D]? = some (.deferred (some [])) → Q .normal { a with defers := { target := .collected D, args := #[] } :: a.defers } W) :
    (Code.rangeFunc g #[p] assign body).wp P Q a w := by
  refine (wpIn_wide (n := m + 1)).1 (wpIn_rangeFunc ?_)
  intro fn hfn
  obtain ⟨rec, hrec⟩ : ∃ rec : LoopState → Option Code → Loop, rec = fun st pe => { state := st, pending := pe, fn, tmps := a.tmps, params := #[p], assign, body, defers := w.heap.size } := ⟨_, rfl⟩
  obtain ⟨W1, hW1⟩ : ∃ W1, (w.alloc (.deferred (some []))).alloc (.loop (rec .ready none)) = W1 := ⟨_, rfl⟩
  have hL1 : W1.heap[w.heap.size + 1]? = some (.loop (rec .ready none)) := by
    rw [← hW1]; have := World.alloc_heap_new (w.alloc (.deferred (some []))) (.loop (rec .ready none)); rwa [World.size_alloc] at this
  have hK1 : W1.heap[w.heap.size]? = some (.deferred (some [])) := by
    rw [← hW1]; exact (Below.heap_alloc _ _ _ (by simp)).trans (World.alloc_heap_new w _)
  have hb1 : Below w.heap.size w W1 := by
    rw [← hW1]; exact ((Below.refl _ w).alloc (Nat.le_refl _) _).alloc (by simp) _
  have hsz : W1.heap.size = w.heap.size + 2 := by rw [← hW1]; simp
  refine ⟨w.heap.size + 1, [{ target := .collected w.heap.size, args := #[] }], W1, { target := .fn (.func gf) lb, args := #[.func (.yield (w.heap.size + 1)) #[] #[]] }, W1, gf,
    #[.func (.yield (w.heap.size + 1)) #[] #[]] ++ lb, W1, ?_, ?_, ?_, ?_, fun h => (by cases h), ?_⟩
  · rw [← hW1, hrec]; exact run_enterLoop_outer _ _ _ _ _
  · simp only [resolve, hg]
    simp [go_sem]
  · intro f' _; trivial
  · simp [invoke, go_sem, eg]
  · refine (hseq W1 hb1 hsz
      (fun (H k : Nat) (W : World) => I H k W ∧ W.heap[w.heap.size + 1]? = some (Obj.loop (rec .ready none)) ∧ W.heap[w.heap.size]? = some (Obj.deferred (some [])))
      ?_ ?_ ?_ ?_ ?_).mono ?_
    · rintro H k W W' ⟨h1, h2, h3⟩ hb
      exact ⟨hIb H k W W' h1 hb, (hb.block _ (Array.getElem?_eq_some_iff.1 h2).1).trans h2, (hb.block _ (Array.getElem?_eq_some_iff.1 h3).1).trans h3⟩
    · rintro H k W T i v ⟨h1, h2, h3⟩ hT hTH
      exact ⟨hIs H k W T i v h1 (by omega) hTH, (Below.heap_setCell _ _ _ _ (by show w.heap.size + 1 ≠ T; omega)).trans h2, (Below.heap_setCell _ _ _ _ (by show w.heap.size ≠ T; omega)).trans h3⟩
    · rintro H k W l' o o' ⟨h1, h2, h3⟩ hl ho hc
      exact ⟨hIp H k W l' o o' h1 (by omega) ho hc, (World.putObj_heap_other (by omega)).trans h2, (World.putObj_heap_other (by omega)).trans h3⟩
    · intro H W' hb hH hH'
      exact ⟨hI0 H W' (hb1.trans (hb.mono (by omega))) (by omega) hH', (hb.block _ (by omega)).trans hL1, (hb.block _ (by omega)).trans hK1⟩
    · rintro H k v W h1 hHW hkN hA ⟨hi, hl, hk⟩
      have hlt : w.heap.size + 1 < W.heap.size := (Array.getElem?_eq_some_iff.1 hl).1
      have hy := run_yield (P := P) (args := #[v]) hl (by rw [hrec]; rfl)
      rw [hrec] at hy
      refine ⟨fn, _, assign, body, hy, roundIn_of_wpIn hfn ?_⟩
      clear hy
      obtain ⟨W2, hW2⟩ : ∃ W2, W.putObj (w.heap.size + 1) (.loop { rec .ready none with state := .busy }) = W2 := ⟨_, rfl⟩
      have hs2 : W2.heap.size = W.heap.size := by rw [← hW2]; simp [World.putObj]
      have hl2 : W2.heap[w.heap.size + 1]? = some (.loop { rec .ready none with state := .busy }) := by rw [← hW2]; exact World.putObj_heap_same hlt
      have hk2 : W2.heap[w.heap.size]? = some (.deferred (some [])) := by rw [← hW2]; exact (World.putObj_heap_other (by omega)).trans hk
      have hi2 : I H k W2 := by rw [← hW2]; exact hIp H k W _ _ _ hi (by omega) hl rfl
      have hA2 : Arg H k v W2 := hArg H k v W W2 hA fun b c e f hb => by
        rw [← hW2]
        refine World.putObj_heap_other (fun e' => ?_)
        subst e'
        rw [hl] at hb; cases hb
      have hfo : ((#[p] : Array Tmp).zip #[v]).foldl (fun tmps (x : Tmp × Value) => tmps.setIfInBounds x.1 x.2) a.tmps = a.tmps.setIfInBounds p v := by simp
      change assign.wpIn _ _ _ _ { tmps := ((#[p] : Array Tmp).zip #[v]).foldl (fun tmps (x : Tmp × Value) => tmps.setIfInBounds x.1 x.2) a.tmps, defers := [] } W
      rw [hfo]
      refine wpIn_mono (hround H k v W W2 (by omega) hHW hkN hA hi hs2) ?_
      rintro e a₁ w₁ hq
      cases e with
      | normal =>
        obtain ⟨rfl, hbody⟩ := hq
        refine ⟨W2, by rw [← hW2]; exact run_beginRound hl (by rw [hrec]), wpIn_mono (hbody hA2 hi2) ?_⟩
        rintro e a3 W3 hp
        cases e with
        | normal =>
          obtain ⟨hk3, hsz3, hi3⟩ := hp
          have hl3 : W3.heap[w.heap.size + 1]? = some (.loop { rec .ready none with state := .busy }) := (hk3 _ (by omega) (by omega)).trans hl2
          have hd3 : W3.heap[w.heap.size]? = some (.deferred (some [])) := (hk3 _ (by omega) (by omega)).trans hk2
          have hr := run_endRound (P := P) none hl3
          have hlt3 : w.heap.size + 1 < W3.heap.size := (Array.getElem?_eq_some_iff.1 hl3).1
          have hrr : ({ ({ rec .ready none with state := .busy } : Loop) with state := if (none : Option Code).isNone then LoopState.ready else LoopState.done, pending := none } : Loop) = rec .ready none := by rw [hrec]; rfl
          rw [hrr] at hr
          refine ⟨_, _, hr, rfl, ⟨hIp H (k + 1) W3 _ _ _ hi3 (by omega) hl3 rfl, World.putObj_heap_same hlt3, (World.putObj_heap_other (by omega)).trans hd3⟩, fun b hb hbB => ?_, ?_⟩
          · by_cases hbl : b = w.heap.size + 1
            · subst hbl
              rw [World.putObj_heap_same hlt3, hl]
            · refine (World.putObj_heap_other (by omega)).trans ((hk3 b hb hbB).trans ?_)
              rw [← hW2]
              exact World.putObj_heap_other (by omega)
          · have hz : (W3.putObj (w.heap.size + 1) (.loop (rec .ready none))).heap.size = W3.heap.size := by simp [World.putObj]
            have hz3 := hsz3.size
            refine ⟨by omega, fun b o hb ho => ?_⟩
            by_cases hbl : b = w.heap.size + 1
            · subst hbl
              rw [World.putObj_heap_same hlt3, ← hb, hl]
            · refine (World.putObj_heap_other (by omega)).trans (hsz3.same b o ?_ ho)
              rw [← hW2]
              exact (World.putObj_heap_other (by omega)).trans hb
        | ret => exact hp.elim
        | exit id => exact hp.elim
        | goto t => exact hp.elim
        | panic ch => exact hp.elim
        | outgrown => exact hp.elim
      | ret => exact hq.elim
      | exit id => exact hq.elim
      | goto t => exact hq.elim
      | panic ch => exact hq.elim
      | outgrown => exact hq.elim
    · rintro e W2 ⟨⟨v, rfl⟩, H, h1, h2, hi, hl, hk⟩
      refine ⟨none, W2.putObj (w.heap.size + 1) (.loop { rec .ready none with state := .exhausted }), ?_, ?_⟩
      · have := run_endLoop (P := P) hl (by rw [hrec]; simp)
        rw [this, hrec]
      · exact hdone w.heap.size H _ (Nat.le_refl _) (by omega) (by simp [World.putObj]; exact h2) (hIp H N W2 _ _ _ hi (by omega) hl rfl) ((World.putObj_heap_other (by omega)).trans hk)
end Go.Proofs.YtafbhadfeemppaaGreatDoor

namespace Go.Proofs.YtafbhadfeemppaaGreatDoor
open Go.RowKit Go.Shelf
attribute [local go_sem] Oper.semAt_some

set_option maxRecDepth 100000 in
set_option maxHeartbeats 4000000 in
theorem chunk_iter (m l Bs Bn B T W H c : Nat) (W1 : World) (hW : 1 ≤ W) (hW2 : W ≤ 1000) (hH : H ≤ 1000) (hc : H * W ≤ c)
    (hs : W1.cell? ⟨Bs, 0, none⟩ = some (.slice (some ⟨T, 0, none⟩) (H * W) c)) (hn : W1.cell? ⟨Bn, 0, none⟩ = some (.int .i64 W)) (hBs : Bs < W1.heap.size) (hBn : Bn < W1.heap.size) (h1 : Bs ≠ B) (h2 : Bn ≠ B) :
    IterN m Tryz.prog 110 #[.pointer (some ⟨Bs, 0, none⟩), .pointer (some ⟨Bn, 0, none⟩)] H B (fun _ k v _ => v = .slice (some ⟨T, k * W, none⟩) W W) l W1 := by
  intro J hJb _ _ hJ0 hY
  have HJB := Lib.hid hJb; have HY := Lib.hid hY
  have HHW := Lib.hid (show H * W ≤ 1000 * 1000 from Nat.mul_le_mul hH hW2)
  have hN : H * W ≤ 1000000 := HHW.out
  have hj0 := hJ0 W1.heap.size W1 (Below.refl _ _) (Nat.le_refl _) (Nat.le_refl _)
  have HJ0 := Lib.hid hj0
  have HS := Lib.hid hs; have HN := Lib.hid hn
  clear hJb hJ0 hY hj0 hs hn
  refine callsIn_of_wp Tryz.func110 rfl trivial ?_ rfl
  simp only [Tryz.ntmps110, List.size_toArray, List.length_cons, List.length_nil, Nat.reduceAdd, Nat.reduceSub, Array.replicate_succ, Array.replicate_zero, List.push_toArray, List.append_toArray, List.nil_append, List.cons_append]
  gi_wp2
  gi_loopw [4] (fun v wr => ∃ k : Nat, k ≤ H ∧ v = .int .i64 ((k * W : Nat) : Int) ∧ Kept W1.heap.size B W1 wr ∧ W1.heap.size ≤ wr.heap.size ∧ J W1.heap.size k wr) (fun v _ => H * W - (intOf v).toNat)
  case atStart => exact ⟨0, Nat.zero_le _, by simp, Kept.refl _ _ _, Nat.le_refl _, HJ0.out⟩
  case round =>
    obtain ⟨k, hk, rfl, hkp, hsz, hj⟩ := hrel
    have c1 := (hkp.cell hBs h1).trans HS.out
    have c2 := (hkp.cell hBn h2).trans HN.out
    have HKP := Lib.hid hkp; have HJ := Lib.hid hj
    clear hkp hj
    by_cases hlt : k < H
    · have hlt2 : k * W < H * W := Nat.mul_lt_mul_of_pos_right hlt hW
      have hle : k * W + W ≤ H * W := by rw [← Nat.succ_mul]; exact Nat.mul_le_mul_right W hlt
      obtain ⟨q, hq⟩ : ∃ q, k * W = q := ⟨_, rfl⟩
      obtain ⟨N, hNN⟩ : ∃ N, H * W = N := ⟨_, rfl⟩
      rw [hq] at hlt2 hle ⊢
      rw [hNN] at hlt2 hle c1 hN hc
      have HQ := Lib.hid hq; have HNN := Lib.hid hNN; have HLT := Lib.hid hlt
      clear hq hNN hlt
      gi_wp2
      gi_region
      have hj2 : J W1.heap.size k wr.drew := HJB.out _ _ _ _ HJ.out (Below.refl _ _).drew
      obtain ⟨fn, tmps, assign, body, hy, hR⟩ := yield_any (m' := m - 1) (HY.out W1.heap.size k (.slice (some ⟨T, q, none⟩) W W) wr.drew (Nat.le_refl _) hsz HLT.out (by rw [HQ.out]) hj2)
      clear hj2
      gi_wp2
      refine ⟨fun h => (by cases h), hR.mono ?_⟩
      rintro e W3 ⟨rfl, hj3, hk3, hs3⟩
      have hkp3 : Kept W1.heap.size B W1 W3 := HKP.out.trans hk3
      have c3 := (hkp3.cell hBn h2).trans HN.out
      have HK3 := Lib.hid hkp3; have HJ3 := Lib.hid hj3
      have hs4 : W1.heap.size ≤ W3.heap.size := Nat.le_trans hsz hs3.size
      clear hy hR hj3 hk3 hs3 hkp3 c1 c2
      gi_wp2
      go_roundw
      case rel => exact ⟨k + 1, HLT.out, by rw [Nat.succ_mul, HQ.out]; go_num, HK3.out, hs4, HJ3.out⟩
      case measure => have := HNN.out; simp [intOf]; omega
    · obtain rfl : k = H := by omega
      obtain ⟨N, hNN⟩ : ∃ N, k * W = N := ⟨_, rfl⟩
      rw [hNN] at c1 hN hc ⊢
      clear hNN
      gi_wp2
      go_end0
      exact ⟨⟨_, rfl⟩, W1.heap.size, Nat.le_refl _, hsz, HJ.out⟩
theorem ochunk (v : Value) (n : Int) (w : World) (hn : 1 ≤ n) (hv : ∃ A m c, v = .slice A m c) :
    Calls Tryz.prog 78 #[v, .int .i64 n] w fun e w' => e = .returned (.func (.func 110) #[] #[.pointer (some ⟨w.heap.size, 0, none⟩), .pointer (some ⟨w.heap.size + 1, 0, none⟩)]) ∧ w' = (w.alloc (.cells #[v] 59)).alloc (.cells #[.int .i64 n] 3) := by
  obtain ⟨A, m, c, rfl⟩ : ∃ A m c, v = .slice A m c := hv
  go_enter Tryz.func78, Tryz.ntmps78
  go_wp2_with fail
  go_ret
  exact ⟨rfl, rfl⟩
end Go.Proofs.YtafbhadfeemppaaGreatDoor
