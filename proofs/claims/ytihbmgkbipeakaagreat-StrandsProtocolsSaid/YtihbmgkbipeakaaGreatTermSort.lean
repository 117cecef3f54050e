/- Chapter 40: the walk of the library's insertion sort over terms. -/
import Derived.Test.YtihbmgkbipeakaaGreatTermNorm
import Derived.BigRegion
import Derived.BigQuiet
import Derived.Deep.RegionHeld3
namespace Go.Proofs.YtihbmgkbipeakaaGreat
open Go.RowKit

theorem RowT.at {w : World} {base g cap : Nat} {L : List T} (h : RowT w base g cap L) (i : Nat) (hi : i < L.length) : ∃ A C, w.cell? ⟨g, i * 3, none⟩ = some (.int .i64 L[i].kind) ∧ w.cell? ⟨g, i * 3 + 1, none⟩ = some (.string L[i].name) ∧
    w.cell? ⟨g, i * 3 + 2, none⟩ = some (.slice A L[i].kids.length C) ∧ TermIn (but base (some g)) w (.agg #[.int .i64 L[i].kind, .string L[i].name, .slice A L[i].kids.length C]) L[i] := by
  obtain ⟨cur, h1, h2, h3, h4, h5, h6⟩ := h
  obtain ⟨u0, u1, u2, a, b, c, d⟩ := h6 i hi
  obtain ⟨rfl, rfl, A, C, rfl⟩ := TermAt.view d
  refine ⟨A, C, ?_, ?_, ?_, d⟩ <;> simp [World.cell?, h1, a, b, c]

theorem RowT.free {w : World} {base g cap : Nat} {L : List T} (h : RowT w base g cap L) (i : Nat) : w.frozen? ⟨g, i * 3, none⟩ = false ∧ w.frozen? ⟨g, i * 3 + 1, none⟩ = false ∧ w.frozen? ⟨g, i * 3 + 2, none⟩ = false := by
  obtain ⟨cur, h1, _⟩ := h
  refine ⟨?_, ?_, ?_⟩ <;> simp [World.frozen?, h1]

theorem swap_at {P Q : List T} {x y : T} {p : Nat} (hp : P.length = p) (i : Nat) (h : i < (P ++ x :: y :: Q).length) (h' : i < (P ++ y :: x :: Q).length) (n0 : i ≠ p) (n1 : i ≠ p + 1) : (P ++ x :: y :: Q)[i] = (P ++ y :: x :: Q)[i] := by
  apply Option.some_inj.1
  rw [← List.getElem?_eq_getElem, ← List.getElem?_eq_getElem]
  rcases Nat.lt_or_ge i p with g | g
  · rw [List.getElem?_append_left (by omega), List.getElem?_append_left (by omega)]
  · obtain ⟨q, rfl⟩ : ∃ q, i = P.length + (q + 2) := ⟨i - p - 2, by omega⟩
    rw [List.getElem?_append_right (by omega), List.getElem?_append_right (by omega)]
    simp
/-- Of a world only block g has changed: its cells are these now. -/
structure Wrote (w : World) (g : Nat) (cur : Array Value) (w' : World) : Prop where
  row : w'.heap[g]? = some (.cells cur 29 (0, 0))
  other : ∀ k, k ≠ g → w'.heap[k]? = w.heap[k]?
  os : w'.os = w.os
  tape : w'.tape = w.tape
  output : w'.output = w.output
  size : w'.heap.size = w.heap.size
theorem Wrote.set {w w' : World} {g : Nat} {cur : Array Value} (h : Wrote w g cur w') (i : Nat) (v : Value) : Wrote w g (cur.setIfInBounds i v) (w'.setCell ⟨g, i, none⟩ v) :=
  ⟨by simp [World.setCell, Array.getElem?_modify, h.row], fun k hk => by rw [Below.heap_setCell _ _ _ _ hk]; exact h.other k hk, h.os, h.tape, h.output, by simp [World.setCell, h.size]⟩
theorem Wrote.drew {w w' : World} {g : Nat} {cur : Array Value} (h : Wrote w g cur w') : Wrote w g cur w'.drew := ⟨h.row, h.other, h.os, h.tape, h.output, h.size⟩
theorem Wrote.grown {w w' : World} {g : Nat} {cur : Array Value} (h : Wrote w g cur w') : w.grownBy w' (some g) := ⟨h.os, h.tape, h.output, Nat.le_of_eq h.size.symm, fun k _ hk => h.other k (fun e => hk (by rw [e]))⟩
theorem RowT.swap {w W : World} {base g cap p : Nat} {P Q : List T} {x y : T} (hp : P.length = p) (h : RowT w base g cap (P ++ y :: x :: Q)) {a0 a1 a2 b0 b1 b2 : Value}
    (z0 : w.cell? ⟨g, p * 3, none⟩ = some a0) (z1 : w.cell? ⟨g, p * 3 + 1, none⟩ = some a1) (z2 : w.cell? ⟨g, p * 3 + 2, none⟩ = some a2)
    (y0 : w.cell? ⟨g, (p + 1) * 3, none⟩ = some b0) (y1 : w.cell? ⟨g, (p + 1) * 3 + 1, none⟩ = some b1) (y2 : w.cell? ⟨g, (p + 1) * 3 + 2, none⟩ = some b2)
    (hW : ∀ cur, w.heap[g]? = some (.cells cur 29 (0, 0)) → Wrote w g ((((((cur.setIfInBounds ((p + 1) * 3) a0).setIfInBounds ((p + 1) * 3 + 1) a1).setIfInBounds ((p + 1) * 3 + 2) a2).setIfInBounds (p * 3) b0).setIfInBounds (p * 3 + 1) b1).setIfInBounds (p * 3 + 2) b2) W) :
    RowT W base g cap (P ++ x :: y :: Q) ∧ w.grownBy W (some g) := by
  obtain ⟨cur, h1, h2, h3, h4, h5, h6⟩ := h
  have hw := hW cur h1
  have hll : (P ++ x :: y :: Q).length = (P ++ y :: x :: Q).length := by simp
  have hpl : p + 1 < (P ++ y :: x :: Q).length := by simp; omega
  have hcell : ∀ j v, w.cell? ⟨g, j, none⟩ = some v → cur[j]? = some v := fun j v hv => by simpa [World.cell?, h1] using hv
  have hsz : cur.size = cap * 3 := h2
  have keep : ∀ {v : Value} {t : T}, TermIn (but base (some g)) w v t → TermIn (but base (some g)) W v t := fun ht =>
    ht.keep fun b hb _ => ⟨hb, hw.other b (fun e => (but_iff.1 hb).2 (by rw [e]))⟩
  refine ⟨⟨_, hw.row, by simpa using h2, by rw [hll]; exact h3, h4, h5, fun i hi => ?_⟩, hw.grown⟩
  have hi' : i < (P ++ y :: x :: Q).length := by rw [← hll]; exact hi
  by_cases n0 : i = p
  · subst n0
    obtain ⟨u0, u1, u2, c0, c1, c2, d⟩ := h6 (i + 1) hpl
    have e0 : b0 = u0 := Option.some_inj.1 ((hcell _ _ y0).symm.trans c0)
    have e1 : b1 = u1 := Option.some_inj.1 ((hcell _ _ y1).symm.trans c1)
    have e2 : b2 = u2 := Option.some_inj.1 ((hcell _ _ y2).symm.trans c2)
    have ex : (P ++ y :: x :: Q)[i + 1] = x := by rw [List.getElem_append_right (by omega)]; simp [← hp]
    have ex' : (P ++ x :: y :: Q)[i] = x := by rw [List.getElem_append_right (by omega)]; simp [← hp]
    subst e0; subst e1; subst e2
    rw [ex] at d
    refine ⟨b0, b1, b2, ?_, ?_, ?_, by rw [ex']; exact keep d⟩
    all_goals simp only [Array.getElem?_setIfInBounds, Array.size_setIfInBounds]; repeat (first | rw [if_pos trivial] | rw [if_pos (by omega)] | rw [if_neg (by omega)])
  · by_cases n1 : i = p + 1
    · subst n1
      obtain ⟨u0, u1, u2, c0, c1, c2, d⟩ := h6 p (by omega)
      have e0 : a0 = u0 := Option.some_inj.1 ((hcell _ _ z0).symm.trans c0)
      have e1 : a1 = u1 := Option.some_inj.1 ((hcell _ _ z1).symm.trans c1)
      have e2 : a2 = u2 := Option.some_inj.1 ((hcell _ _ z2).symm.trans c2)
      have ex : (P ++ y :: x :: Q)[p] = y := by rw [List.getElem_append_right (by omega)]; simp [← hp]
      have ex' : (P ++ x :: y :: Q)[p + 1] = y := by rw [List.getElem_append_right (by omega)]; simp [← hp]
      subst e0; subst e1; subst e2
      rw [ex] at d
      refine ⟨a0, a1, a2, ?_, ?_, ?_, by rw [ex']; exact keep d⟩
      all_goals simp only [Array.getElem?_setIfInBounds, Array.size_setIfInBounds]; repeat (first | rw [if_pos trivial] | rw [if_pos (by omega)] | rw [if_neg (by omega)])
    · obtain ⟨u0, u1, u2, c0, c1, c2, d⟩ := h6 i hi'
      rw [swap_at hp i hi hi' n0 n1]
      refine ⟨u0, u1, u2, ?_, ?_, ?_, keep d⟩
      all_goals simp only [Array.getElem?_setIfInBounds, Array.size_setIfInBounds]; repeat (first | rw [if_pos trivial] | rw [if_pos (by omega)] | rw [if_neg (by omega)])
      · exact c0
      · exact c1
      · exact c2

set_option maxRecDepth 100000 in
set_option maxHeartbeats 8000000 in
theorem insertion (base g cap : Nat) (L : List T) (w : World) (h : RowT w base g cap L) (hL : L.length ≤ 20) (hb : T.bulkAll L ≤ 1048576) :
    Calls Tryz.prog 156 #[.slice (some ⟨g, 0, none⟩) L.length cap, .int .i64 0, .int .i64 L.length, .func (.func 103) #[] #[]] w fun e w' =>
      e = .returned (.tuple #[]) ∧ RowT w' base g cap (T.isort L) ∧ w.grownBy w' (some g) := by
  have HR := Lib.hid h
  clear h
  go_enter Tryz.func156, Tryz.ntmps156
  go_wp2_with fail
  go_loopw [8] (fun i wr => ∃ (m : Nat) (acc : List T), 1 ≤ m ∧ m ≤ 20 ∧ i = .int .i64 m ∧ acc = (L.take m).foldl (fun acc x => T.insR x acc) [] ∧ RowT wr base g cap (acc.reverse ++ L.drop m) ∧ w.grownBy wr (some g)) (fun i _ => 30 - (intOf i).toNat)
  case atStart =>
    refine ⟨1, L.take 1, Nat.le_refl _, by omega, rfl, ?_, ?_, ⟨rfl, rfl, rfl, Nat.le_refl _, fun _ _ _ => rfl⟩⟩
    · cases L with
      | nil => rfl
      | cons t r => rfl
    · have : (L.take 1).reverse ++ L.drop 1 = L := by cases L <;> simp
      rw [this]; exact HR.out
  case round =>
    obtain ⟨m, acc, hm1, hm2, rfl, hacc, hrow, hgr⟩ := hrel
    by_cases hlt : m < L.length
    · have hi : (m : Int) < (L.length : Int) := by omega
      have HACC := Lib.hid hacc; have HROW := Lib.hid hrow; have HGR := Lib.hid hgr; have HLT := Lib.hid hlt
      clear hacc hrow hgr
      go_wp2_with fail
      have hml : (List.take m L).length = m := by rw [List.length_take]; omega
      have hal : acc.length = m := by rw [HACC.out, T.length_fold, hml]; simp
      obtain ⟨x, hdr, htk0, hbx⟩ : ∃ x, L.drop m = x :: L.drop (m + 1) ∧ L.take (m + 1) = L.take m ++ [x] ∧ x.bulk ≤ T.bulkAll L := ⟨L[m], List.drop_eq_getElem_cons hlt, List.take_succ_eq_append_getElem hlt, T.bulk_at L m hlt⟩
      have htk : (L.take (m + 1)).foldl (fun acc x => T.insR x acc) [] = T.insR x acc := by rw [htk0, List.foldl_append, ← HACC.out]; rfl
      obtain ⟨rest, hrest⟩ : ∃ rest, L.drop (m + 1) = rest := ⟨_, rfl⟩
      have hst : RowT wr base g cap (acc.reverse ++ [x] ++ [].reverse ++ rest) := by have := HROW.out; rw [hdr, hrest] at this; simpa using this
      have hlen : acc.length + 1 + rest.length = L.length := by rw [← hrest, List.length_drop]; omega
      have hba : T.bulkAll acc ≤ T.bulkAll L := by rw [HACC.out, T.bulkAll_fold]; have := T.bulkAll_take L m; simp only [T.bulkAll]; omega
      have hbk : ∀ t ∈ acc, t.bulk ≤ 1048576 := fun t ht => by
        obtain ⟨i, hi, rfl⟩ := List.getElem_of_mem ht
        have := T.bulk_at acc i hi; omega
      have HST := Lib.hid hst; have HTK := Lib.hid htk; have HBK := Lib.hid hbk; have HBX := Lib.hid (Nat.le_trans hbx hb); have HAL := Lib.hid hal; have HLEN := Lib.hid hlen; have HREST := Lib.hid hrest
      clear hst htk hbk hba hbx hal hlen hdr hml htk0 hrest
      obtain ⟨wo, hwo⟩ : ∃ wo : World, wo = wr := ⟨_, rfl⟩
      rw [← hwo] at HST HGR ⊢
      clear hwo HROW
      go_loopw [9] (fun i wr => ∃ A Bq : List T, acc = Bq ++ A ∧ T.insR x acc = Bq ++ T.insR x A ∧ i = .int .i64 A.length ∧ RowT wr base g cap (A.reverse ++ [x] ++ Bq.reverse ++ rest) ∧ w.grownBy wr (some g)) (fun i _ => (intOf i).toNat)
      case atStart => exact ⟨acc, [], rfl, rfl, by rw [HAL.out], HST.out, HGR.out⟩
      case round =>
        obtain ⟨A, Bq, hab, hins, rfl, hrow, hgr⟩ := hrel
        have HAB := Lib.hid hab; have HINS := Lib.hid hins; have HROW := Lib.hid hrow; have HGR2 := Lib.hid hgr
        clear hab hins hrow hgr
        cases A with
        | nil =>
          simp only [List.length_nil]
          go_upto_region 4 with fail
          go_quiet (fail)
          go_wp2_with fail
          go_roundw
          case rel =>
            refine ⟨m + 1, T.insR x acc, by omega, by have := HLT.out; omega, by go_num, HTK.out.symm, ?_, ⟨HGR2.out.os, HGR2.out.tape, HGR2.out.output, HGR2.out.size, HGR2.out.block⟩⟩
            rw [HINS.out]
            have := RowT.keep (w' := wr.drewN nq) HROW.out (fun _ _ _ => rfl)
            rw [HREST.out]
            simpa [T.insR] using this
          case measure => simp [intOf]; omega
        | cons y A =>
          obtain ⟨p, hp⟩ : ∃ p, A.length = p := ⟨_, rfl⟩
          have hlen2 : (Bq ++ y :: A).length = m := by rw [← HAB.out, HAL.out]
          simp only [List.length_append, List.length_cons] at hlen2
          have hN : ((y :: A).reverse ++ [x] ++ Bq.reverse ++ rest).length = L.length := by have := HLEN.out; have := HAL.out; simp; omega
          obtain ⟨A0, C0, c0, c1, c2, hx0⟩ := HROW.out.at p (by omega)
          obtain ⟨A1, C1, d0, d1, d2, hx1⟩ := HROW.out.at (p + 1) (by omega)
          have ey : ((y :: A).reverse ++ [x] ++ Bq.reverse ++ rest)[p]'(by omega) = y := by
            simp only [List.reverse_cons, List.append_assoc]
            rw [List.getElem_append_right (by simp; omega)]
            simp [← hp]
          have ex : ((y :: A).reverse ++ [x] ++ Bq.reverse ++ rest)[p + 1]'(by omega) = x := by
            simp only [List.reverse_cons, List.append_assoc]
            rw [List.getElem_append_right (by simp; omega)]
            simp [← hp]
          rw [ey] at c0 c1 c2 hx0
          rw [ex] at d0 d1 d2 hx1
          have hpl : (p : Int) + 1 < (L.length : Int) := by omega
          have hpl' : (p : Int) < (L.length : Int) := by omega
          simp only [List.length_cons, hp]
          push_cast
          have HX0 := Lib.hid hx0.at; have HX1 := Lib.hid hx1.at
          have q1 : IntKind.i64.wrap ((p : Int) + 1 - 1) = (p : Int) := by rw [IntWalk.i64_in _ (by omega)]; omega
          have q0 : (0 : Int) < (p : Int) + 1 := by omega
          have HP := Lib.hid hp
          have q4 : IntKind.i64.wrap (p : Int) = (p : Int) := IntWalk.i64_in _ (by omega)
          have q2 : (0 : Int) ≤ (p : Int) := by omega
          have q3 : (0 : Int) ≤ (p : Int) + 1 := by omega
          clear hx0 hx1 ex ey hN hlen2 hp
          go_upto_region 4 with fail
          obtain ⟨c, hcv⟩ : ∃ c, T.cmp x y = c := ⟨_, rfl⟩
          have HCV := Lib.hid hcv
          have HY := Lib.hid (HBK.out y (by rw [HAB.out]; simp))
          have HC := Lib.hid (fun W h1 h2 => hcv ▸ ocmp (x.bulk + 1) x y (.agg #[.int .i64 x.kind, .string x.name, .slice A1 x.kids.length C1]) (.agg #[.int .i64 y.kind, .string y.name, .slice A0 y.kids.length C0]) W (by omega) h1 h2 HBX.out HY.out)
          clear hcv
          go_region_held3 (fun W => W.cell? ⟨g, p * 3, none⟩ = some (.int .i64 y.kind) ∧ W.cell? ⟨g, p * 3 + 1, none⟩ = some (.string y.name) ∧ W.cell? ⟨g, p * 3 + 2, none⟩ = some (.slice A0 y.kids.length C0) ∧ W.cell? ⟨g, (p + 1) * 3, none⟩ = some (.int .i64 x.kind) ∧ W.cell? ⟨g, (p + 1) * 3 + 1, none⟩ = some (.string x.name) ∧ W.cell? ⟨g, (p + 1) * 3 + 2, none⟩ = some (.slice A1 x.kids.length C1) ∧ Below wr.heap.size wr W)
            (first | exact ⟨c0, c1, c2, d0, d1, d2, Below.refl _ _⟩ | exact ⟨c0, c1, c2, d0, d1, d2, (Below.refl _ _).drew⟩ | exact six_later (by assumption) hb4 | go_keep)
            ((go_at_call 103; refine (HC.out _ HX1.out.drew HX0.out.drew).mono ?_; rintro e w2 ⟨rfl, hb4⟩))
          rename_i hS
          obtain ⟨z0, z1, z2, y0, y1, y2, hbw2⟩ := hS
          have HROW2 := Lib.hid (HROW.out.keep fun b _ hl => hbw2.block b hl)
          have HGR3 := Lib.hid (grownBy_trans HGR2.out (grownBy_of_below (some g) hbw2))
          clear c0 c1 c2 d0 d1 d2 hb4 hbw2
          by_cases hc : c < 0
          · obtain ⟨f0, f1, f2⟩ := HROW2.out.free p
            obtain ⟨g0, g1, g2⟩ := HROW2.out.free (p + 1)
            have HCC := Lib.hid hc
            go_wp2_with fail
            go_region
            have hrs : RowT w2 base g cap (A.reverse ++ y :: x :: (Bq.reverse ++ rest)) := by have := HROW2.out; simpa using this
            obtain ⟨hrow5, hgr5⟩ := hrs.swap (by rw [List.length_reverse]; exact HP.out) z0 z1 z2 y0 y1 y2 (fun cur hcur => (((((((Wrote.mk hcur (fun _ _ => rfl) rfl rfl rfl rfl).set _ _).set _ _).set _ _).set _ _).set _ _).set _ _).drew)
            generalize ((((((w2.setCell ⟨g, (p + 1) * 3, none⟩ (.int .i64 y.kind)).setCell ⟨g, (p + 1) * 3 + 1, none⟩ (.string y.name)).setCell ⟨g, (p + 1) * 3 + 2, none⟩ (.slice A0 y.kids.length C0)).setCell ⟨g, p * 3, none⟩ (.int .i64 x.kind)).setCell ⟨g, p * 3 + 1, none⟩ (.string x.name)).setCell ⟨g, p * 3 + 2, none⟩ (.slice A1 x.kids.length C1)).drew = w5 at hrow5 hgr5 ⊢
            have HR5 := Lib.hid hrow5; have HG5 := Lib.hid (grownBy_trans HGR3.out hgr5)
            clear hrs hrow5 hgr5 f0 f1 f2 g0 g1 g2 z0 z1 z2 y0 y1 y2 hc
            go_wp2_with fail
            go_roundw
            case rel =>
              refine ⟨A, Bq ++ [y], by rw [HAB.out]; simp, ?_, by rw [HP.out], by have := HR5.out; simpa using this, HG5.out⟩
              rw [HINS.out]; simp only [T.insR]; rw [if_pos (by rw [HCV.out]; exact HCC.out)]; simp
            case measure => simp [intOf]
          · have hc' : 0 ≤ c := by omega
            have HCC := Lib.hid hc
            clear hc
            go_wp2_with fail
            go_roundw
            case rel =>
              refine ⟨m + 1, T.insR x acc, by omega, by have := HLT.out; omega, by go_num, HTK.out.symm, ?_, HGR3.out⟩
              rw [HINS.out]
              have := HROW2.out
              rw [HREST.out]
              have e : T.insR x (y :: A) = x :: y :: A := by simp only [T.insR]; rw [if_neg (by rw [HCV.out]; exact HCC.out)]
              rw [e]
              simpa using this
            case measure => have := HLT.out; simp [intOf]; omega
    · have hge : (L.length : Int) ≤ (m : Int) := by omega
      have HRW := Lib.hid (show RowT wr base g cap (T.isort L) by
        have e : L.take m = L := List.take_of_length_le (by omega)
        have e' : L.drop m = [] := List.drop_of_length_le (by omega)
        rw [e', List.append_nil, hacc, e] at hrow
        exact hrow)
      have HG := Lib.hid hgr
      clear hrow hgr hacc hlt
      go_wp2_with fail
      go_end0
      exact ⟨rfl, HRW.out, HG.out⟩
set_option maxHeartbeats 1000000 in
theorem stable_ok (base g cap : Nat) (L : List T) (w : World) (h : RowT w base g cap L) (hL : L.length < 20) (hb : T.bulkAll L ≤ 1048576) :
    Calls Tryz.prog 168 #[.slice (some ⟨g, 0, none⟩) L.length cap, .int .i64 L.length, .func (.func 103) #[] #[]] w fun e w' =>
      e = .returned (.tuple #[]) ∧ RowT w' base g cap (T.isort L) ∧ w.grownBy w' (some g) := by
  have HI := Lib.hid (insertion base g cap L w h (by omega) hb)
  clear h hb
  have q1 : (L.length : Int) < 20 := by omega
  have q2 : (0 : Int) ≤ (L.length : Int) := by omega
  clear hL
  go_enter Tryz.func168, Tryz.ntmps168
  go_wp2_with fail
  refine wp_loop_rounds 1 ?_; rw [rounds_succ]
  go_wp2_with fail
  refine HI.out.mono ?_; rintro e w2 ⟨rfl, hr, hg⟩
  have HR := Lib.hid hr; have HG := Lib.hid hg
  clear hr hg
  go_wp2_with fail
  refine wp_loop_rounds 1 ?_; rw [rounds_succ]
  go_wp2_with fail
  go_end0
  exact ⟨rfl, HR.out, HG.out⟩
theorem sort_ok (base g cap : Nat) (L : List T) (w : World) (h : RowT w base g cap L) (hL : L.length < 20) (hb : T.bulkAll L ≤ 1048576) :
    Calls Tryz.prog 138 #[.slice (some ⟨g, 0, none⟩) L.length cap, .func (.func 103) #[] #[]] w fun e w' =>
      e = .returned (.tuple #[]) ∧ RowT w' base g cap (T.isort L) ∧ w.grownBy w' (some g) := by
  have HI := Lib.hid (stable_ok base g cap L w h hL hb)
  clear h hb
  go_enter Tryz.func138, Tryz.ntmps138
  go_wp2_with fail
  refine HI.out.mono ?_; rintro e w2 ⟨rfl, hr, hg⟩
  have HR := Lib.hid hr; have HG := Lib.hid hg
  clear hr hg
  go_wp2_with fail
  go_end0
  exact ⟨rfl, HR.out, HG.out⟩
end Go.Proofs.YtihbmgkbipeakaaGreat
