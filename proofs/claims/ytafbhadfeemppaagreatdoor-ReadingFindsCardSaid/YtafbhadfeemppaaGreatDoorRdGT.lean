/- Chapter 12: several texts in one (RdFrom, RdTexts). -/
import Derived.Test.YtafbhadfeemppaaGreatDoorRdLeaf
import Derived.Laws.OwnMore
import Derived.Laws.EntriesVeiled
namespace Go.Proofs.YtafbhadfeemppaaGreatDoor
open Go.RowKit Go.Shelf

theorem prod_drop {L : List (List UInt8)} {p : Nat} (h : p < L.length) {j i : Nat} {u : List UInt8} (hj : j < L[p].length) (hu : (Rd.prod (L.drop (p + 1)))[i]? = some u) :
    (Rd.prod (L.drop p))[j * Rd.size (L.drop (p + 1)) + i]? = some (L[p][j] :: u) := by
  rw [List.drop_eq_getElem_cons h, Rd.prod]
  have hi := (List.getElem?_eq_some_iff.1 hu).1
  have := Rd.flat_get L[p] (Rd.prod (L.drop (p + 1))) j hj i hi
  rw [Rd.prod_length] at this
  rw [this]
  obtain ⟨_, e⟩ := List.getElem?_eq_some_iff.1 hu
  rw [e]
theorem size_drop {L : List (List UInt8)} {p : Nat} (h : p < L.length) : Rd.size (L.drop p) = L[p].length * Rd.size (L.drop (p + 1)) := by
  rw [List.drop_eq_getElem_cons h, Rd.size]
/-- What the closure reads, in the world in which it began. -/
structure TX (W0 : World) (HT B T n Wd l Ba Bt Bf Bw By ga oa ca : Nat) (L : List (List UInt8)) : Prop where
  tt : T < HT ∧ T ≠ B
  a : Ba < HT ∧ Ba ≠ B ∧ Ba ≠ T ∧ W0.cell? ⟨Ba, 0, none⟩ = some (.slice (some ⟨ga, oa, none⟩) n ca)
  t : Bt < HT ∧ Bt ≠ B ∧ Bt ≠ T ∧ W0.cell? ⟨Bt, 0, none⟩ = some (.slice (some ⟨T, 0, none⟩) n n)
  f : Bf < HT ∧ Bf ≠ B ∧ Bf ≠ T ∧ W0.cell? ⟨Bf, 0, none⟩ = some (.func (.func 77) #[] #[.pointer (some ⟨Ba, 0, none⟩), .pointer (some ⟨Bt, 0, none⟩), .pointer (some ⟨Bf, 0, none⟩), .pointer (some ⟨Bw, 0, none⟩), .pointer (some ⟨By, 0, none⟩)])
  w : Bw < HT ∧ Bw ≠ B ∧ Bw ≠ T ∧ W0.cell? ⟨Bw, 0, none⟩ = some (.int .i64 Wd)
  y : By < HT ∧ By ≠ B ∧ By ≠ T ∧ W0.cell? ⟨By, 0, none⟩ = some (.func (.yield l) #[] #[])
  g : ga < HT ∧ ga ≠ B ∧ ga ≠ T
  rows : ∀ i (h : i < L.length), ∃ r cap, r < HT ∧ r ≠ B ∧ r ≠ T ∧ W0.cell? ⟨ga, oa + i, none⟩ = some (.slice (some ⟨r, 0, none⟩) L[i].length cap) ∧ BytesAt W0 r L[i]
/-- All but the text and one block lie as they lay. -/
def Same3 (W0 : World) (HT B T : Nat) (W : World) : Prop := HT ≤ W.heap.size ∧ ∀ b, b < HT → b ≠ B → b ≠ T → W.heap[b]? = W0.heap[b]?
theorem Same3.cell {W0 W : World} {HT B T b o : Nat} (h : Same3 W0 HT B T W) (h1 : b < HT ∧ b ≠ B ∧ b ≠ T) : W.cell? ⟨b, o, none⟩ = W0.cell? ⟨b, o, none⟩ := World.cell?_of_block (a := ⟨b, o, none⟩) (h.2 b h1.1 h1.2.1 h1.2.2)
/-- What a call of the closure leaves. -/
def FromPost (W0 : World) (HT B T n p k S : Nat) (t : List UInt8) (J : Nat → Nat → World → Prop) (e : Ending) (W' : World) : Prop :=
  e = .returned (.bool true) ∧ J HT (k + S) W' ∧ Same3 W0 HT B T W' ∧ ∃ t', BytesAt W' T t' ∧ t'.length = n ∧ t'.take p = t.take p
set_option maxRecDepth 100000 in
set_option maxHeartbeats 4000000 in
theorem from_all (m l B T HT n Wd H Ba Bt Bf Bw By ga oa ca : Nat) (L : List (List UInt8)) (J : Nat → Nat → World → Prop) (W0 : World)
    (hJb : ∀ H k W W', J H k W → Below W.heap.size W W' → J H k W') (hJs : ∀ k W i v, J HT k W → J HT k (W.setCell ⟨T, i, none⟩ v)) (hJp : ∀ k W l' o o', J HT k W → HT ≤ l' → W.heap[l']? = some o → o.isCells = false → J HT k (W.putObj l' o'))
    (hY : ∀ k v W2, HT ≤ W2.heap.size → k < Rd.size L → RArg L H Wd HT k v W2 → J HT k W2 → YieldAt Fence.wide m Tryz.prog l #[v] W2 fun e W' => e = .returned (.bool true) ∧ J HT (k + 1) W' ∧ Kept HT B W2 W' ∧ KeepsOthers W2 W')
    (hX : TX W0 HT B T n Wd l Ba Bt Bf Bw By ga oa ca L) (hn : n = H * Wd) (hL : L.length = n) (hW : 1 ≤ Wd) (hW2 : Wd ≤ 1000) (hH : H ≤ 1000) (hle : ∀ b ∈ L, b.length ≤ 256) :
    ∀ (d p k : Nat) (t : List UInt8) (W : World), p + d = n → Same3 W0 HT B T W → BytesAt W T t → t.length = n → (∀ i u, (Rd.prod (L.drop p))[i]? = some u → (Rd.prod L)[k + i]? = some (t.take p ++ u)) → J HT k W →
    Calls Tryz.prog 77 #[.int .i64 p, .pointer (some ⟨Ba, 0, none⟩), .pointer (some ⟨Bt, 0, none⟩), .pointer (some ⟨Bf, 0, none⟩), .pointer (some ⟨Bw, 0, none⟩), .pointer (some ⟨By, 0, none⟩)] W
      (FromPost W0 HT B T n p k (Rd.size (L.drop p)) t J) := by
  have hnn : n ≤ 1000000 := by rw [hn]; exact Nat.mul_le_mul hH hW2
  intro d
  induction d with
  | zero =>
    intro p k t W hp hS hb ht hpr hj
    obtain rfl : p = n := by omega
    have hd : L.drop p = [] := List.drop_eq_nil_of_le (by omega)
    rw [hd] at hpr ⊢
    have hk := hpr 0 [] (by simp [Rd.prod])
    rw [Nat.add_zero, List.append_nil, List.take_of_length_le (by omega)] at hk
    have hkN : k < Rd.size L := by rw [← Rd.prod_length]; exact (List.getElem?_eq_some_iff.1 hk).1
    have hck : choice L k = t := by unfold choice; rw [List.getD_eq_getElem?_getD, hk]; rfl
    refine (from_leaf m l B T HT p Wd H k (Rd.size L) Ba Bt Bf Bw By ca _ L J t W hJb hJp hY hS.1 ((hS.cell ⟨hX.a.1, hX.a.2.1, hX.a.2.2.1⟩).trans hX.a.2.2.2) ((hS.cell ⟨hX.t.1, hX.t.2.1, hX.t.2.2.1⟩).trans hX.t.2.2.2)
      ((hS.cell ⟨hX.w.1, hX.w.2.1, hX.w.2.2.1⟩).trans hX.w.2.2.2) ((hS.cell ⟨hX.y.1, hX.y.2.1, hX.y.2.2.1⟩).trans hX.y.2.2.2) hb ht hn hW hW2 hH hck hkN hj).mono ?_
    rintro e W' ⟨rfl, hj', hk', hs'⟩
    exact ⟨rfl, hj', ⟨Nat.le_trans hS.1 hs', fun b h1 h2 h3 => (hk' b h1 h2).trans (hS.2 b h1 h2 h3)⟩, t, fun i hi => ⟨(hk'.cell hX.tt.1 hX.tt.2).trans (hb i hi).1, (hk'.frozen hX.tt.1 hX.tt.2).trans (hb i hi).2⟩, ht, rfl⟩
  | succ d ih =>
    intro p k t W hp hS hb ht hpr hj
    have hpn : p < n := by omega
    have hpL : p < L.length := by omega
    obtain ⟨r, cap, hr1, hr2, hr3, hrc, hrb⟩ := hX.rows p hpL
    have hsd := size_drop hpL
    obtain ⟨C, hC⟩ : ∃ C, L[p]'hpL = C := ⟨_, rfl⟩
    obtain ⟨Sz, hSz⟩ : ∃ Sz, Rd.size (L.drop (p + 1)) = Sz := ⟨_, rfl⟩
    have hCl : C.length ≤ 256 := by rw [← hC]; exact hle _ (List.getElem_mem _)
    rw [hC, hSz] at hsd
    rw [hC] at hrc hrb
    have ca1 := (hS.cell ⟨hX.a.1, hX.a.2.1, hX.a.2.2.1⟩).trans hX.a.2.2.2
    have cr1 := (hS.cell hX.g).trans hrc
    have IH := Lib.hid ih; have HP := Lib.hid hpr; have HJ := Lib.hid hj; have HB := Lib.hid hb; have HS := Lib.hid hS; have HT' := Lib.hid ht; have HSD := Lib.hid hsd; have HC := Lib.hid hC; have HSZ := Lib.hid hSz; have HRB := Lib.hid hrb; have HX := Lib.hid hX; have HJS := Lib.hid hJs
    have HR := Lib.hid (And.intro hr1 (And.intro hr2 hr3)); have HLE := Lib.hid hL
    rw [hsd]
    clear ih hpr hj hb hS ht hsd hC hSz hrb hrc hX hJs hJb hJp hY hle hr1 hr2 hr3 hL hn
    go_enter Tryz.func77, Tryz.ntmps77
    go_wp2_with fail
    go_loopw [21] (fun v wr => ∃ (j : Nat) (t' : List UInt8), j ≤ C.length ∧ v = .int .i64 j ∧ Same3 W0 HT B T wr ∧ BytesAt wr T t' ∧ t'.length = n ∧ t'.take p = t.take p ∧ J HT (k + j * Sz) wr) (fun v _ => C.length - (intOf v).toNat)
    case atStart => exact ⟨0, t, Nat.zero_le _, rfl, HS.out, HB.out, HT'.out, rfl, by rw [Nat.zero_mul]; exact HJ.out⟩
    case round =>
      obtain ⟨j, t', hj, rfl, hS', hb', ht', htp, hJ'⟩ := hrel
      have HS' := Lib.hid hS'; have HB' := Lib.hid hb'; have HTL := Lib.hid ht'; have HTP := Lib.hid htp; have HJ' := Lib.hid hJ'
      by_cases hlt : j < C.length
      · have cj : wr.cell? ⟨r, j, none⟩ = some (.int .u8 ((C[j]'hlt).toNat : Int)) := (hS'.cell HR.out).trans (HRB.out j hlt).1
        obtain ⟨q, hq⟩ : ∃ q, C[j]'hlt = q := ⟨_, rfl⟩
        rw [hq] at cj
        have HQ := Lib.hid hq; have HLT := Lib.hid hlt
        have hpt : p < t'.length := by omega
        obtain ⟨cT, fT⟩ := hb' p hpt
        have ct := (hS'.cell ⟨HX.out.t.1, HX.out.t.2.1, HX.out.t.2.2.1⟩).trans HX.out.t.2.2.2
        have cf := (hS'.cell ⟨HX.out.f.1, HX.out.f.2.1, HX.out.f.2.2.1⟩).trans HX.out.f.2.2.2
        have hq0 := u8_le q
        have hbs := hb'.set_ p (q.toNat : Int) hq0.1 hq0.2 hpt
        have hb8 : b8 (q.toNat : Int) = q := by unfold b8; simp
        rw [hb8] at hbs
        have HBS := Lib.hid hbs
        have HJS' := Lib.hid (HJS.out _ _ p (.int .u8 (q.toNat : Int)) hJ')
        have HSS := Lib.hid (show Same3 W0 HT B T (wr.setCell ⟨T, p, none⟩ (.int .u8 (q.toNat : Int))) from ⟨by have := hS'.1; simpa [World.setCell] using this, fun b h1 h2 h3 => (Below.heap_setCell _ _ _ _ (by exact h3)).trans (hS'.2 b h1 h2 h3)⟩)
        have hne : Bf ≠ T := HX.out.f.2.2.1
        have cf2 := (HSS.out.cell ⟨HX.out.f.1, HX.out.f.2.1, HX.out.f.2.2.1⟩).trans HX.out.f.2.2.2
        have HIH := Lib.hid (IH.out (p + 1) (k + j * Sz) (t'.set p q) (wr.setCell ⟨T, p, none⟩ (.int .u8 (q.toNat : Int))) (by omega) HSS.out hbs (by simpa using ht') (fun i u hu => by
          have hu2 := prod_drop (by rw [HLE.out]; exact hpn) (by rw [HC.out]; exact hlt) hu
          have h1 := HP.out _ _ hu2
          rw [HSZ.out, ← Nat.add_assoc] at h1
          rw [h1]
          congr 1
          have e1 : (L[p]'(by rw [HLE.out]; exact hpn))[j]'(by rw [HC.out]; exact hlt) = q := by
            have : ∀ (l : List UInt8) (hl : l = C) (h : j < l.length), l[j] = q := fun l hl h => by subst hl; exact hq
            exact this _ HC.out _
          rw [e1]
          have e2 : (t'.set p q).take (p + 1) = t'.take p ++ [q] := by
            rw [List.take_succ_eq_append_getElem (by simpa using hpt), List.take_set_of_le (Nat.le_refl _)]
            simp
          rw [e2, HTP.out]
          simp) HJS'.out)
        rw [HSZ.out] at HIH
        clear hS' hb' ht' htp hJ' hq hb8 hbs
        go_wp2_with (go_at_call 77; refine HIH.out.mono ?_; rintro e w2 ⟨rfl, hj2, hs2, t2, hb2, hl2, ht2⟩; have H2 := Lib.hid (show ∃ t2, BytesAt w2 T t2 ∧ t2.length = n ∧ t2.take (p + 1) = (t'.set p q).take (p + 1) from ⟨t2, hb2, hl2, ht2⟩); have HJ2 := Lib.hid hj2; have HS2 := Lib.hid hs2; clear hj2 hs2 hb2 hl2 ht2)
        go_roundw
        case rel =>
          obtain ⟨t2, hb2, hl2, ht2⟩ := H2.out
          refine ⟨j + 1, t2, HLT.out, by go_num, HS2.out, hb2, hl2, ?_, by have := HJ2.out; rwa [Nat.add_assoc, ← Nat.succ_mul] at this⟩
          have h3 := congrArg (List.take p) ht2
          rw [List.take_take, List.take_take, Nat.min_eq_left (Nat.le_succ p), List.take_set_of_le (Nat.le_refl _)] at h3
          rw [h3, HTP.out]
        case measure => have := HLT.out; simp [intOf]; omega
      · obtain rfl : j = C.length := by omega
        clear hS' hb' ht' htp hJ'
        go_wp2_with fail
        go_ret
        exact ⟨rfl, HJ'.out, HS'.out, t', HB'.out, HTL.out, HTP.out⟩
end Go.Proofs.YtafbhadfeemppaaGreatDoor

namespace Go.Proofs.YtafbhadfeemppaaGreatDoor
open Go.RowKit Go.Shelf

theorem u8_info12 : (Tryz.prog.info? 5).map (fun i => (i.zero, i.size, i.bytes)) = some (some (.int .u8 0), 1, 1) := by kernel_rfl
theorem made_text (w : World) (n : Nat) (hn : n ≤ 1000000) : ∃ w', Sem.run Tryz.prog (Instr.makeSlice 59 (.int .i64 (n : Int)) (.int .i64 (n : Int))) w = .ok (.slice (some ⟨w.heap.size, 0, none⟩) n n) w' ∧ Below w.heap.size w w' ∧ BytesAt w' w.heap.size (List.replicate n 0) ∧ (0 < n → w.heap.size < w'.heap.size) := by
  obtain ⟨i0, hi, hz0, hz1, hz2⟩ := info_parts u8_info12
  obtain ⟨w', hr, ho, hg⟩ := run_make_full (P := Tryz.prog) w w.heap.size 59 5 i0 (.int .u8 0) 1 Tryz.underlying59 hi hz0 hz1 .i64 .i64 n (by rw [hz2]; omega) (by unfold maxLen; omega) (Nat.le_refl _)
  have hb : Below w.heap.size w w' := (Below.refl _ _).grown hg (Nat.le_refl _) (fun j e => by cases e)
  refine ⟨w', hr, hb, fun i h => ?_, fun _ => (ho.lt w.heap.size rfl).2⟩
  have hi' : i < n := by simpa using h
  refine ⟨?_, World.ownsRow.frozenAt ho i⟩
  rw [World.ownsRow.cellAt ho i (by omega)]
  rw [show (Value.int .u8 0).cells = #[Value.int .u8 0] from rfl, Nat.mul_one, toList_madeCells_one]
  simp [hi']
set_option maxRecDepth 100000 in
set_option maxHeartbeats 4000000 in
theorem otexts (m l B n Wd H ga oa ca : Nat) (L : List (List UInt8)) (J : Nat → Nat → World → Prop) (W1 : World)
    (hJb : ∀ H k W W', J H k W → Below W.heap.size W W' → J H k W') (hJs : ∀ H k W T i v, J H k W → W1.heap.size ≤ T → T < H → J H k (W.setCell ⟨T, i, none⟩ v)) (hJp : ∀ H k W l' o o', J H k W → W1.heap.size ≤ l' → W.heap[l']? = some o → o.isCells = false → J H k (W.putObj l' o'))
    (hJ0 : ∀ H W', Below W1.heap.size W1 W' → W1.heap.size ≤ H → H ≤ W'.heap.size → J H 0 W')
    (hY : ∀ H' k v W2, W1.heap.size ≤ H' → H' ≤ W2.heap.size → k < Rd.size L → RArg L H Wd H' k v W2 → J H' k W2 → YieldAt Fence.wide m Tryz.prog l #[v] W2 fun e W' => e = .returned (.bool true) ∧ J H' (k + 1) W' ∧ Kept H' B W2 W' ∧ KeepsOthers W2 W')
    (hBW : B < W1.heap.size) (hga : ga ≠ B) (hgl : ga < W1.heap.size) (hrows : ∀ i (h : i < L.length), ∃ r cap, r < W1.heap.size ∧ r ≠ B ∧ W1.cell? ⟨ga, oa + i, none⟩ = some (.slice (some ⟨r, 0, none⟩) L[i].length cap) ∧ BytesAt W1 r L[i])
    (hn : n = H * Wd) (hn0 : 0 < n) (hL : L.length = n) (hW : 1 ≤ Wd) (hW2 : Wd ≤ 1000) (hH : H ≤ 1000) (hle : ∀ b ∈ L, b.length ≤ 256) :
    Calls Tryz.prog 41 #[.slice (some ⟨ga, oa, none⟩) n ca, .int .i64 Wd, .func (.yield l) #[] #[]] W1 fun e W' => e = .returned (.tuple #[]) ∧ ∃ HT, W1.heap.size ≤ HT ∧ HT ≤ W'.heap.size ∧ J HT (Rd.size L) W' := by
  have hnn : n ≤ 1000000 := by rw [hn]; exact Nat.mul_le_mul hH hW2
  have ba := ((Boxed.new W1 65 (.slice (some ⟨ga, oa, none⟩) n ca)).alloc (.cells #[.int .i64 (Wd : Int)] 3)).alloc (.cells #[.func (.yield l) #[] #[]] 68)
  have bw := (Boxed.new (W1.alloc (.cells #[.slice (some ⟨ga, oa, none⟩) n ca] 65)) 3 (.int .i64 (Wd : Int))).alloc (.cells #[.func (.yield l) #[] #[]] 68)
  have bY := Boxed.new ((W1.alloc (.cells #[.slice (some ⟨ga, oa, none⟩) n ca] 65)).alloc (.cells #[.int .i64 (Wd : Int)] 3)) 68 (.func (.yield l) #[] #[])
  simp only [World.size_alloc] at bw bY
  have hb0 : Below W1.heap.size W1 (((W1.alloc (.cells #[.slice (some ⟨ga, oa, none⟩) n ca] 65)).alloc (.cells #[.int .i64 (Wd : Int)] 3)).alloc (.cells #[.func (.yield l) #[] #[]] 68)) := (((Below.refl _ W1).alloc (Nat.le_refl _) _).alloc (by simp) _).alloc (by simp; omega) _
  have hz0 : (((W1.alloc (.cells #[.slice (some ⟨ga, oa, none⟩) n ca] 65)).alloc (.cells #[.int .i64 (Wd : Int)] 3)).alloc (.cells #[.func (.yield l) #[] #[]] 68)).heap.size = W1.heap.size + 3 := by simp
  have HJB := Lib.hid hJb; have HJS := Lib.hid hJs; have HJP := Lib.hid hJp; have HJ0 := Lib.hid hJ0; have HY := Lib.hid hY; have HRW := Lib.hid hrows; have HN := Lib.hid hn; have HLL := Lib.hid hL; have HLE := Lib.hid hle; have HGA := Lib.hid (And.intro hga hgl)
  clear hJb hJs hJp hJ0 hY hrows hn hL hle hga hgl
  go_enter Tryz.func41, Tryz.ntmps41
  go_upto_region 1 with fail
  generalize ((W1.alloc (.cells #[.slice (some ⟨ga, oa, none⟩) n ca] 65)).alloc (.cells #[.int .i64 (Wd : Int)] 3)).alloc (.cells #[.func (.yield l) #[] #[]] 68) = W2 at ba bw bY hb0 hz0 ⊢
  obtain ⟨W3, hmk, hb3, hby, hT⟩ := made_text W2 n hnn
  have ca2 := ba.cell
  have HBX := Lib.hid (And.intro ba (And.intro bw bY)); have HB0 := Lib.hid hb0; have HZ0 := Lib.hid hz0; have HB3 := Lib.hid hb3; have HBY := Lib.hid hby; have HT := Lib.hid (hT hn0)
  clear ba bw bY hb0 hz0 hb3 hby hT
  go_wp2_with fail
  have bt := (Boxed.new W3 59 (.slice (some ⟨W2.heap.size, 0, none⟩) n n)).alloc (.cells #[(.func (.func 77) #[] #[.pointer (some ⟨W1.heap.size, 0, none⟩), .pointer (some ⟨W3.heap.size, 0, none⟩), .pointer (some ⟨W3.heap.size + 1, 0, none⟩), .pointer (some ⟨W1.heap.size + 1, 0, none⟩), .pointer (some ⟨W1.heap.size + 1 + 1, 0, none⟩)])] 53)
  have bf := Boxed.new (W3.alloc (.cells #[.slice (some ⟨W2.heap.size, 0, none⟩) n n] 59)) 53 (.func (.func 77) #[] #[.pointer (some ⟨W1.heap.size, 0, none⟩), .pointer (some ⟨W3.heap.size, 0, none⟩), .pointer (some ⟨W3.heap.size + 1, 0, none⟩), .pointer (some ⟨W1.heap.size + 1, 0, none⟩), .pointer (some ⟨W1.heap.size + 1 + 1, 0, none⟩)])
  simp only [World.size_alloc] at bf
  have hb4 : Below W3.heap.size W3 ((W3.alloc (.cells #[.slice (some ⟨W2.heap.size, 0, none⟩) n n] 59)).alloc (.cells #[(.func (.func 77) #[] #[.pointer (some ⟨W1.heap.size, 0, none⟩), .pointer (some ⟨W3.heap.size, 0, none⟩), .pointer (some ⟨W3.heap.size + 1, 0, none⟩), .pointer (some ⟨W1.heap.size + 1, 0, none⟩), .pointer (some ⟨W1.heap.size + 1 + 1, 0, none⟩)])] 53)) := ((Below.refl _ W3).alloc (Nat.le_refl _) _).alloc (by simp) _
  have hz4 : ((W3.alloc (.cells #[.slice (some ⟨W2.heap.size, 0, none⟩) n n] 59)).alloc (.cells #[(.func (.func 77) #[] #[.pointer (some ⟨W1.heap.size, 0, none⟩), .pointer (some ⟨W3.heap.size, 0, none⟩), .pointer (some ⟨W3.heap.size + 1, 0, none⟩), .pointer (some ⟨W1.heap.size + 1, 0, none⟩), .pointer (some ⟨W1.heap.size + 1 + 1, 0, none⟩)])] 53)).heap.size = W3.heap.size + 2 := by simp
  generalize (W3.alloc (.cells #[.slice (some ⟨W2.heap.size, 0, none⟩) n n] 59)).alloc (.cells #[(.func (.func 77) #[] #[.pointer (some ⟨W1.heap.size, 0, none⟩), .pointer (some ⟨W3.heap.size, 0, none⟩), .pointer (some ⟨W3.heap.size + 1, 0, none⟩), .pointer (some ⟨W1.heap.size + 1, 0, none⟩), .pointer (some ⟨W1.heap.size + 1 + 1, 0, none⟩)])] 53) = W4 at bt bf hb4 hz4 ⊢
  obtain ⟨ba, bw, bY⟩ := HBX.out
  have z0 := HZ0.out
  have z3 := HT.out
  have hb34 := HB3.out.trans (hb4.mono HB3.out.size)
  have hb14 := HB0.out.trans (hb34.mono HB0.out.size)
  have hga := HGA.out
  have k3 : ∀ b, b < W2.heap.size → W4.heap[b]? = W2.heap[b]? := fun b h => hb34.block b h
  have hX : TX W4 W4.heap.size B W2.heap.size n Wd l W1.heap.size W3.heap.size (W3.heap.size + 1) (W1.heap.size + 1) (W1.heap.size + 1 + 1) ga oa ca L := by
    refine ⟨⟨by omega, by omega⟩, ⟨by omega, by omega, by omega, ?_⟩, ⟨by omega, by omega, by omega, bt.cell⟩, ⟨by omega, by omega, by omega, bf.cell⟩, ⟨by omega, by omega, by omega, ?_⟩, ⟨by omega, by omega, by omega, ?_⟩, ⟨by omega, hga.1, by omega⟩, ?_⟩
    · exact (World.cell?_of_block (a := ⟨W1.heap.size, 0, none⟩) (k3 _ (by dsimp only; omega))).trans ba.cell
    · exact (World.cell?_of_block (a := ⟨W1.heap.size + 1, 0, none⟩) (k3 _ (by dsimp only; omega))).trans bw.cell
    · exact (World.cell?_of_block (a := ⟨W1.heap.size + 1 + 1, 0, none⟩) (k3 _ (by dsimp only; omega))).trans bY.cell
    · intro i h
      obtain ⟨r, cap, h1, h2, h3, h4⟩ := HRW.out i h
      exact ⟨r, cap, by omega, h2, by omega, cell_later hb14 h3, h4.later hb14 h1⟩
  have hd0 : L.drop 0 = L := rfl
  have hall := from_all m l B W2.heap.size W4.heap.size n Wd H W1.heap.size W3.heap.size (W3.heap.size + 1) (W1.heap.size + 1) (W1.heap.size + 1 + 1) ga oa ca L J W4 HJB.out
    (fun k W i v h => HJS.out _ k W _ i v h (by omega) (by omega)) (fun k W l' o o' h hl ho hc => HJP.out _ k W l' o o' h (by omega) ho hc)
    (fun k v W h1 h2 h3 h4 => HY.out _ k v W (by omega) h1 h2 h3 h4) hX HN.out HLL.out hW hW2 hH HLE.out
    n 0 0 (List.replicate n 0) W4 (by omega) ⟨Nat.le_refl _, fun _ _ _ _ => rfl⟩ (HBY.out.later hb4 z3) (by simp) (fun i u hu => by rw [hd0] at hu; rw [Nat.zero_add]; exact hu)
    (HJ0.out _ W4 hb14 (by omega) (Nat.le_refl _))
  rw [hd0] at hall
  have HALL := Lib.hid hall
  have hz14 : W1.heap.size ≤ W4.heap.size := hb14.size
  clear hall hX k3 ba bw bY z0 z3 hb34 hb14 hga bt bf hb4 hz4 hmk hd0
  refine HALL.out.mono ?_; rintro e w5 ⟨rfl, hj, hs, -⟩
  have HJ5 := Lib.hid hj; have HS5 := Lib.hid hs.1
  clear hj hs
  go_wp2_with fail
  go_end0
  exact ⟨rfl, W4.heap.size, hz14, HS5.out, by have := HJ5.out; rwa [Nat.zero_add] at this⟩
end Go.Proofs.YtafbhadfeemppaaGreatDoor
