/- Chapter 12: several texts in one (RdDbtP, RdDbt, RdLines, RdGrowP). -/
import Derived.Test.YtafbhadfeemppaaGreatDoorRdPut
import Derived.Test.YtafbhadfeemppaaGreatDoorZonGE
import Derived.Test.YtafbhadfeemppaaGreatDoorZonGR
namespace Go.Proofs.YtafbhadfeemppaaGreatDoor
open Go.RowKit

theorem set_split {α : Type} (l : List α) {i : Nat} (h : i < l.length) (x : α) : l.set i x = l.take i ++ x :: l.drop (i + 1) := by
  rw [List.set_eq_take_append_cons_drop, if_pos h]
theorem get_split {α : Type} (l : List α) {i : Nat} (h : i < l.length) : l = l.take i ++ l[i] :: l.drop (i + 1) := by
  rw [← List.drop_eq_getElem_cons h, List.take_append_drop]
/-- The places of a reading, and of a reading with another text at one. -/
theorem flat_put {K : List (List ByteArray)} {i k : Nat} (hi : i < K.length) (hk : k < K[i].length) : ∃ P Q, flatG K = P ++ Rd.srt K[i][k].data.toList :: Q ∧ ∀ s, flatG (putG K i k s) = P ++ Rd.srt s.data.toList :: Q := by
  let f : ByteArray → List UInt8 := fun s => Rd.srt s.data.toList
  refine ⟨flatG (K.take i) ++ (K[i].take k).map f, (K[i].drop (k + 1)).map f ++ flatG (K.drop (i + 1)), ?_, fun s => ?_⟩
  · have e1 : flatG K = flatG (K.take i) ++ (K[i].map f ++ flatG (K.drop (i + 1))) := by
      have h := get_split K hi
      unfold flatG
      rw [show K.flatten = (K.take i ++ K[i] :: K.drop (i + 1)).flatten from congrArg List.flatten h]
      rw [List.flatten_append, List.flatten_cons, List.map_append, List.map_append]
    have e2 : K[i].map f = (K[i].take k).map f ++ f K[i][k] :: (K[i].drop (k + 1)).map f := by
      conv => lhs; rw [get_split K[i] hk]
      rw [List.map_append, List.map_cons]
    rw [e1, e2]
    simp only [List.append_assoc, List.cons_append]
    rfl
  · have e1 : flatG (putG K i k s) = flatG (K.take i) ++ ((K[i].set k s).map f ++ flatG (K.drop (i + 1))) := by
      rw [putG_get hi]
      unfold flatG
      rw [set_split K hi, List.flatten_append, List.flatten_cons, List.map_append, List.map_append]
    have e2 : (K[i].set k s).map f = (K[i].take k).map f ++ f s :: (K[i].drop (k + 1)).map f := by
      rw [set_split _ hk, List.map_append, List.map_cons]
    rw [e1, e2]
    simp only [List.append_assoc, List.cons_append]
    rfl
/-- What is known of a reading behind so many doubts. -/
def Dbt (R : List ByteArray) (K : List (List ByteArray)) (n : Nat) (inn : Bool) : Prop :=
  K.length = R.length ∧ (∀ i (h : i < K.length) (h' : i < R.length), K[i].length = R[i].size) ∧ (∀ r ∈ K, ∀ s ∈ r, s.size ≠ 0 ∧ s.size ≤ 1 + 3 * n) ∧ Rd.size (flatG K) ≤ 4 ^ n ∧
    (inn = true → ∀ i k (h : i < K.length) (h' : k < K[i].length) (g : i < R.length) (g' : k < R[i].size), R[i][k] ∈ K[i][k].data.toList)
theorem size_one : ∀ {L : List (List UInt8)}, (∀ b ∈ L, b.length = 1) → Rd.size L = 1
  | [], _ => rfl
  | b :: r, h => by
    unfold Rd.size
    rw [h b (List.mem_cons_self ..), size_one fun x hx => h x (List.mem_cons_of_mem _ hx)]
theorem sharpG_get {R : List ByteArray} {i k : Nat} (hi : i < R.length) (h : i < (sharpG R).length) (hk : k < R[i].size) (h' : k < (sharpG R)[i].length) : (sharpG R)[i][k] = ⟨#[R[i][k]]⟩ := by
  have e : (sharpG R)[i] = sharpL R[i] := List.getElem_map sharpL
  have e2 : (sharpL R[i])[k]'(by rw [sharpL_len]; exact hk) = ⟨#[R[i][k]]⟩ := by unfold sharpL; rw [List.getElem_map]; rfl
  rw [← e2]
  exact List.getElem_of_eq e h'
theorem dbt_sharp (R : List ByteArray) : Dbt R (sharpG R) 0 true := by
  refine ⟨by unfold sharpG; rw [List.length_map], fun i h h' => ?_, fun r hr s hs => ?_, ?_, fun _ i k h h' g g' => ?_⟩
  · have e : (sharpG R)[i] = sharpL R[i] := List.getElem_map sharpL
    rw [e, sharpL_len]
  · unfold sharpG at hr
    obtain ⟨t, _, rfl⟩ := List.mem_map.1 hr
    unfold sharpL at hs
    obtain ⟨c, _, rfl⟩ := List.mem_map.1 hs
    exact ⟨by show (1 : Nat) ≠ 0; decide, by show 1 ≤ _; omega⟩
  · rw [size_one, Nat.pow_zero]
    · exact Nat.le_refl _
    · intro b hb
      unfold flatG at hb
      obtain ⟨s, hs, rfl⟩ := List.mem_map.1 hb
      obtain ⟨r, hr, hs⟩ := List.mem_flatten.1 hs
      unfold sharpG at hr
      obtain ⟨t, _, rfl⟩ := List.mem_map.1 hr
      unfold sharpL at hs
      obtain ⟨c, _, rfl⟩ := List.mem_map.1 hs
      show (Rd.srt [c]).length = 1
      rw [Rd.srt_one]; rfl
  · rw [sharpG_get g h g' h']; simp
theorem mem_put {K : List (List ByteArray)} {i k : Nat} {s : ByteArray} (hi : i < K.length) : ∀ r ∈ putG K i k s, ∀ x ∈ r, x = s ∨ ∃ r' ∈ K, x ∈ r' := by
  intro r hr x hx
  rw [putG_get hi] at hr
  rcases List.mem_or_eq_of_mem_set hr with h | rfl
  · exact .inr ⟨r, h, hx⟩
  · rcases List.mem_or_eq_of_mem_set hx with h | rfl
    · exact .inr ⟨_, List.getElem_mem hi, h⟩
    · exact .inl rfl
theorem put_at {K : List (List ByteArray)} {i k : Nat} {s : ByteArray} (hi : i < K.length) (hk : k < K[i].length) {a b : Nat} (ha : a < (putG K i k s).length) (hb : b < (putG K i k s)[a].length) (ha' : a < K.length) (hb' : b < K[a].length) :
    (putG K i k s)[a][b] = if a = i ∧ b = k then s else K[a][b] := by
  have e := putG_get hi k s
  by_cases h : a = i
  · subst h
    have e2 : (putG K a k s)[a] = K[a].set k s := by rw [List.getElem_of_eq e ha]; simp
    rw [List.getElem_of_eq e2 hb, List.getElem_set]
    by_cases h2 : b = k
    · subst h2; simp
    · rw [if_neg (fun e => h2 e.symm), if_neg (fun e => h2 e.2)]
  · have e2 : (putG K i k s)[a] = K[a] := by rw [List.getElem_of_eq e ha, List.getElem_set_ne (fun e => h e.symm)]
    rw [List.getElem_of_eq e2 hb, if_neg (fun e => h e.1)]
theorem size_mid (P Q : List (List UInt8)) (b : List UInt8) : Rd.size (P ++ b :: Q) = Rd.size P * (b.length * Rd.size Q) := by rw [Rd.size_append]; rfl
/-- One doubt more. -/
theorem Dbt.step {R : List ByteArray} {K : List (List ByteArray)} {n : Nat} {inn b : Bool} {i k : Nat} {s t : ByteArray} (h : Dbt R K n inn) (hi : i < K.length) (hk : k < K[i].length) (ht : t.size ≤ 3) (h0 : s.size ≠ 0)
    (hs : s = if b = true then t ++ K[i][k] else t) : Dbt R (putG K i k s) (n + 1) (inn && b) := by
  obtain ⟨h1, h2, h3, h4, h5⟩ := h
  have hold := h3 _ (List.getElem_mem hi) _ (List.getElem_mem hk)
  have hsz : s.size ≤ 3 + K[i][k].size := by
    rw [hs]; split
    · rw [ByteArray.size_append]; omega
    · omega
  refine ⟨by rw [putG_len]; exact h1, fun a ha ha' => ?_, fun r hr x hx => ?_, ?_, fun hin a c ha hc g g' => ?_⟩
  · have hak : a < K.length := by rw [putG_len] at ha; exact ha
    rw [putG_row ha hak]; exact h2 a hak ha'
  · rcases mem_put hi r hr x hx with rfl | ⟨r', hr', hx'⟩
    · exact ⟨h0, by have := hold.2; omega⟩
    · have := h3 r' hr' x hx'; exact ⟨this.1, by omega⟩
  · obtain ⟨P, Q, e1, e2⟩ := flat_put hi hk
    rw [e2, size_mid]
    rw [e1, size_mid] at h4
    have hl1 : 1 ≤ (Rd.srt K[i][k].data.toList).length := by
      refine List.length_pos_iff.2 (Rd.srt_nil fun e => hold.1 ?_)
      rw [← Opt.size_len, e]; rfl
    have hl2 : (Rd.srt s.data.toList).length ≤ 4 * (Rd.srt K[i][k].data.toList).length := by
      rw [hs]
      split
      · have e3 : (t ++ K[i][k]).data.toList = t.data.toList ++ K[i][k].data.toList := by simp
        rw [e3]
        have h6 : (Rd.srt (t.data.toList ++ K[i][k].data.toList)).length ≤ t.data.toList.length + (Rd.srt K[i][k].data.toList).length := by
          rw [← List.length_append]
          refine List.Nodup.length_le_of_subset (Rd.asc_nodup (Rd.srt_asc _)) fun c hc => ?_
          rw [Rd.mem_srt] at hc
          rcases List.mem_append.1 hc with hc | hc
          · exact List.mem_append.2 (.inl hc)
          · exact List.mem_append.2 (.inr (Rd.mem_srt.2 hc))
        rw [Opt.size_len] at h6
        omega
      · have := Rd.srt_le t.data.toList
        rw [Opt.size_len] at this; omega
    calc Rd.size P * ((Rd.srt s.data.toList).length * Rd.size Q)
        ≤ Rd.size P * ((4 * (Rd.srt K[i][k].data.toList).length) * Rd.size Q) := Nat.mul_le_mul_left _ (Nat.mul_le_mul_right _ hl2)
      _ = 4 * (Rd.size P * ((Rd.srt K[i][k].data.toList).length * Rd.size Q)) := by
        rw [Nat.mul_assoc 4, Nat.mul_left_comm]
      _ ≤ 4 * 4 ^ n := Nat.mul_le_mul_left _ h4
      _ = 4 ^ (n + 1) := by rw [Nat.pow_succ, Nat.mul_comm]
  · rw [Bool.and_eq_true] at hin
    have hak : a < K.length := by rw [putG_len] at ha; exact ha
    have hck : c < K[a].length := by have := putG_row (s := s) ha hak; omega
    have h6 := h5 hin.1 a c hak hck g g'
    rw [put_at hi hk ha hc hak hck]
    split
    · rename_i e
      obtain ⟨rfl, rfl⟩ := e
      rw [hs, if_pos hin.2]
      simp [h6]
    · exact h6
end Go.Proofs.YtafbhadfeemppaaGreatDoor

namespace Go.Proofs.YtafbhadfeemppaaGreatDoor
open Go.RowKit

/-- The rows and the dice. -/
def DW (w : World) (g : Nat) (v : Value) (vs : List Value) (K : List (List ByteArray)) (W : World) : Prop := RowsAt W w.heap.size v vs K ∧ DiceAt g g W ∧ w.grownBy W (some g) ∧ g < w.heap.size
theorem DW.dice {w W W' : World} {g : Nat} {v : Value} {vs : List Value} {K : List (List ByteArray)} (h : DW w g v vs K W) (hd : DiceAt g g W') (hg : W.grownBy W' (some g)) : DW w g v vs K W' := by
  obtain ⟨h1, h2, h3, h4⟩ := h
  refine ⟨h1.kept hg ?_ fun i hi => ?_, hd, h3.trans hg, h4⟩
  · cases e : v.ownBlock with
    | none => exact .inl rfl
    | some b => right; intro e2; injection e2 with e2; have := (own_lt h1.1 e).1; omega
  · cases e : vs[i].ownBlock with
    | none => exact .inl rfl
    | some b => right; intro e2; injection e2 with e2; have := (own_lt (h1.2.2.1 i hi (by rw [← h1.2.1]; exact hi)) e).1; omega
theorem DW.put {w W : World} {g : Nat} {v : Value} {vs : List Value} {K K' : List (List ByteArray)} {ga k : Nat} {x : Value} (h : DW w g v vs K W) (hr : RowsAt (W.setCell ⟨ga, k, none⟩ x) w.heap.size v vs K') (hb : w.heap.size ≤ ga) : DW w g v vs K' (W.setCell ⟨ga, k, none⟩ x) := by
  obtain ⟨h1, h2, h3, h4⟩ := h
  have hbel := set_below12 (k := k) (Below.refl w.heap.size W) hb x
  refine ⟨hr, h2.below hbel h4, ⟨h3.os, h3.tape, h3.output, by have := h3.size; simpa [World.setCell] using this, fun i hi hne => ?_⟩, h4⟩
  exact (hbel.block i hi).trans (h3.block i hi hne)
theorem lit21 : ∀ j, (h : j < 21) → ∀ w, Sem.run Tryz.prog (convert 5 9 (.int .u8 (((⟨#[60, 48, 49, 50, 51, 52, 53, 54, 55, 56, 57, 65, 66, 68, 71, 73, 76, 79, 81, 83, 90]⟩ : ByteArray)[j]'h).toNat : Int))) w = .ok (.string ⟨#[(⟨#[60, 48, 49, 50, 51, 52, 53, 54, 55, 56, 57, 65, 66, 68, 71, 73, 76, 79, 81, 83, 90]⟩ : ByteArray)[j]'h]⟩) w
  | 0, _, _ | 1, _, _ | 2, _, _ | 3, _, _ | 4, _, _ | 5, _, _ | 6, _, _ | 7, _, _ | 8, _, _ | 9, _, _ | 10, _, _ | 11, _, _ | 12, _, _ | 13, _, _ | 14, _, _ | 15, _, _ | 16, _, _ | 17, _, _ | 18, _, _ | 19, _, _ | 20, _, _ => by kernel_rfl
  | j + 21, h, _ => absurd h (by omega)
set_option maxRecDepth 100000 in
set_option maxHeartbeats 8000000 in
theorem odoubt (g : Nat) (R : List ByteArray) (A : Option Addr) (c : Nat) (most : Nat) (w : World) (hd : DiceAt g g w) (hA : TextsAt w A R) (hR : 0 < R.length ∧ R.length ≤ 3) (hs : ∀ s ∈ R, 0 < s.size ∧ s.size ≤ 44) (hm : most ≤ 20) :
    Calls Tryz.prog 16 #[.pointer (some ⟨g, 0, none⟩), .slice A R.length c, .int .i64 (most : Int)] w fun e w' =>
      ∃ v vs K inn n, n ≤ most ∧ e = .returned (.tuple #[v, .bool inn]) ∧ Dbt R K n inn ∧ DW w g v vs K w' := by
  have HSH := Lib.hid (osharp R A c w hA (by omega) (fun s h => by have := hs s h; omega))
  have hgl := hd.lt
  have HD := Lib.hid hd; have HSS := Lib.hid hs; have HRL := Lib.hid hR
  clear hd hA hs hR
  go_enter Tryz.func16, Tryz.ntmps16
  go_wp2_with fail
  refine HSH.out.mono ?_; rintro e w1 ⟨v, vs, rfl, hr, hb1⟩
  have HW1 := Lib.hid (show DW w g v vs (sharpG R) w1 from ⟨hr, HD.out.below hb1 hgl, grown_of_below hb1 _, hgl⟩)
  clear hr hb1
  go_wp2_with fail
  refine (made_next g g ((most : Int) + 1) w1 HW1.out.2.1 (by omega) (by omega)).mono ?_; rintro e w2 ⟨n0, a1, a2, rfl, hd2, hg2⟩
  have HW2 := Lib.hid (HW1.out.dice hd2 hg2)
  obtain ⟨n0, rfl⟩ : ∃ q : Nat, n0 = (q : Int) := ⟨n0.toNat, by omega⟩
  have hn0 : n0 ≤ most := by omega
  obtain ⟨Av, cv, rfl, _, _⟩ := own_form HW2.out.1.1
  clear hd2 hg2 a1 a2
  have hkl : (sharpG R).length = R.length := by unfold sharpG; rw [List.length_map]
  rw [hkl] at HW2 ⊢
  clear hkl
  go_wp2_with fail
  go_loopw [9, 10] (fun v9 v10 wr => ∃ (K : List (List ByteArray)) (inn : Bool) (n r : Nat), n + r = n0 ∧ v10 = .int .i64 r ∧ v9 = .bool inn ∧ Dbt R K n inn ∧ DW w g (.slice Av R.length cv) vs K wr) (fun _ v10 _ => (intOf v10).toNat)
  case atStart => exact ⟨sharpG R, true, 0, n0, by omega, rfl, rfl, dbt_sharp R, HW2.out⟩
  case round =>
    obtain ⟨K, inn, n, r, hnr, rfl, rfl, hdb, hW⟩ := hrel
    have HDB := Lib.hid hdb; have HW := Lib.hid hW
    clear hdb hW
    have hKl : K.length = R.length := HDB.out.1
    have HKL := Lib.hid hKl
    clear hKl
    cases r with
    | zero =>
      go_wp2_with fail
      go_ret2
      exact ⟨_, vs, K, inn, n, by omega, rfl, HDB.out, HW.out⟩
    | succ r =>
      have hrl := HRL.out
      have hr0 : (0 : Int) < ((r + 1 : Nat) : Int) := by omega
      obtain ⟨wo, rfl⟩ : ∃ wo : World, wo = wr := ⟨_, rfl⟩
      go_wp2_with fail
      refine (made_next g g (R.length : Int) wo HW.out.2.1 (by omega) (by omega)).mono ?_; rintro e w3 ⟨i, a1, a2, rfl, hd3, hg3⟩
      have HW3 := Lib.hid (HW.out.dice hd3 hg3)
      obtain ⟨i, rfl⟩ : ∃ q : Nat, i = (q : Int) := ⟨i.toNat, by omega⟩
      have hi : i < K.length := by rw [HKL.out]; omega
      have hiR : i < R.length := by omega
      have hrow := HDB.out.2.1 i hi hiR
      have hsz := HSS.out _ (List.getElem_mem hiR)
      obtain ⟨m, hmm⟩ : ∃ m, (R[i]'hiR).size = m := ⟨_, rfl⟩
      rw [hmm] at hrow hsz
      have HI := Lib.hid hi
      have HROW := Lib.hid (show (K[i]'HI.out).length = m from hrow)
      obtain ⟨gl, cl, ga, ca, hv, e0, -, -, -, -, -⟩ := HW3.out.1.place hi (k := 0) (by rw [hrow]; omega)
      rw [hrow] at e0
      rw [HKL.out] at hv
      obtain ⟨rfl, rfl⟩ : Av = some ⟨gl, 0, none⟩ ∧ cv = cl := by
        simp only [Value.slice.injEq] at hv
        exact ⟨hv.1, hv.2.2⟩
      clear hd3 hg3 hrow hmm hv hi hiR
      go_wp2_with fail
      refine (made_next g g (m : Int) w3 HW3.out.2.1 (by omega) (by omega)).mono ?_; rintro e w4 ⟨k, b1, b2, rfl, hd4, hg4⟩
      have HW4 := Lib.hid (HW3.out.dice hd4 hg4)
      obtain ⟨k, rfl⟩ : ∃ q : Nat, k = (q : Int) := ⟨k.toNat, by omega⟩
      have HK := Lib.hid (show k < (K[i]'HI.out).length by rw [HROW.out]; omega)
      have hk : k < m := by omega
      clear hd4 hg4 e0
      go_wp2_with fail
      refine (made_next g g 3 w4 HW4.out.2.1 (by omega) (by omega)).mono ?_; rintro e w5 ⟨q, c1, c2, rfl, hd5, hg5⟩
      have HW5 := Lib.hid (HW4.out.dice hd5 hg5)
      obtain ⟨q, rfl⟩ : ∃ y : Nat, q = (y : Int) := ⟨q.toNat, by omega⟩
      have hq : q ≤ 2 := by omega
      clear hd5 hg5
      go_wp2_with fail
      go_loopw [13, 14] (fun v13 v14 wr => ∃ (t : ByteArray) (x : Nat), t.size + x = q + 1 ∧ v14 = .int .i64 x ∧ v13 = .string t ∧ DW w g (.slice (some ⟨gl, 0, none⟩) R.length cv) vs K wr) (fun _ v14 _ => (intOf v14).toNat)
      case atStart => exact ⟨ByteArray.empty, q + 1, by simp, by go_num, rfl, HW5.out⟩
      case round =>
        obtain ⟨t, x, htx, rfl, rfl, hW⟩ := hrel
        have HWR := Lib.hid hW
        clear hW
        cases x with
        | succ x =>
          have hx0 : (0 : Int) < ((x + 1 : Nat) : Int) := by omega
          go_wp2_with fail
          refine (made_next g g 21 wr HWR.out.2.1 (by omega) (by omega)).mono ?_; rintro e w6 ⟨j, d1, d2, rfl, hd6, hg6⟩
          have HW6 := Lib.hid (HWR.out.dice hd6 hg6)
          obtain ⟨j, rfl⟩ : ∃ y : Nat, j = (y : Int) := ⟨j.toNat, by omega⟩
          have hj : j < 21 := by omega
          have HL := lit21 j hj
          obtain ⟨u, hu⟩ : ∃ u : UInt8, ((⟨#[60, 48, 49, 50, 51, 52, 53, 54, 55, 56, 57, 65, 66, 68, 71, 73, 76, 79, 81, 83, 90]⟩ : ByteArray)[j]'hj) = u := ⟨_, rfl⟩
          rw [hu] at HL
          have hts : (t ++ ⟨#[u]⟩ : ByteArray).size = t.size + 1 := by rw [ByteArray.size_append]; rfl
          have HTS := Lib.hid hts
          clear hd6 hg6 hts
          go_wp2_with fail
          go_roundw
          case rel => exact ⟨t ++ ⟨#[u]⟩, x, by rw [HTS.out]; omega, by go_num, rfl, HW6.out⟩
          case measure => simp [intOf]
        | zero =>
          go_wp2_with fail
          refine (made_one g g 5 wr HWR.out.2.1 (by omega) (by omega)).mono ?_; rintro e w6 ⟨b, rfl, hd6, hg6⟩
          have HW6 := Lib.hid (HWR.out.dice hd6 hg6)
          clear hd6 hg6
          obtain ⟨gl2, cl2, ga, ca, hv, e0, e1, e2, h3, h4, h5⟩ := HW6.out.1.place HI.out HK.out
          rw [HROW.out] at e0
          rw [HKL.out] at hv
          obtain ⟨hgl2, rfl⟩ : gl = gl2 ∧ cv = cl2 := by
            simp only [Value.slice.injEq, Option.some.injEq, Addr.mk.injEq] at hv
            exact ⟨hv.1.1, hv.2.2⟩
          subst hgl2
          obtain ⟨old, hold⟩ : ∃ old, (K[i]'HI.out)[k]'HK.out = old := ⟨_, rfl⟩
          rw [hold] at e1
          have HOLD := Lib.hid hold
          have hos := HDB.out.2.2.1 _ (List.getElem_mem HI.out) _ (List.getElem_mem HK.out)
          rw [hold] at hos
          have HP := Lib.hid (fun s => HW6.out.put (h5 s) h3)
          have ht3 : t.size ≤ 3 := by omega
          have ht1 : 0 < t.size := by omega
          clear hv hold h3 h4 h5
          cases b with
          | true =>
            have HST := Lib.hid (HDB.out.step (b := false) (s := t) (t := t) HI.out HK.out ht3 (by omega) rfl)
            go_wp2_with fail
            go_roundw
            case rel =>
              refine ⟨putG K i k t, false, n + 1, r, by omega, by go_num, rfl, ?_, HP.out t⟩
              have h := HST.out
              rwa [Bool.and_false] at h
            case measure => simp [intOf]
          | false =>
            have hso : (t ++ old).size = t.size + old.size := ByteArray.size_append ..
            have HST := Lib.hid (HDB.out.step (b := true) (s := t ++ old) (t := t) HI.out HK.out ht3 (by omega) (by rw [HOLD.out]; rfl))
            clear hso
            go_wp2_with fail
            go_roundw
            case rel =>
              refine ⟨putG K i k (t ++ old), inn, n + 1, r, by omega, by go_num, rfl, ?_, HP.out (t ++ old)⟩
              have h := HST.out
              rwa [Bool.and_true] at h
            case measure => simp [intOf]
end Go.Proofs.YtafbhadfeemppaaGreatDoor

namespace Go.Proofs.YtafbhadfeemppaaGreatDoor
open Go.RowKit

theorem fits_le12 {z : Zn.Z} {a b : Nat} (h : z.fits a) (hab : a ≤ b) : z.fits b := by unfold Zn.Z.fits at *; omega
theorem fits_good12 {z : Zn.Z} (h : Zn.Good z ∧ z.sur.size ≤ 33 ∧ z.giv.size ≤ 33) : z.fits 100 := by
  obtain ⟨h, h1, h2⟩ := h
  have a1 := Zn.letters_le h.kind; have a2 := Zn.letters_le h.state; have a3 := Zn.letters_le h.nat; have a4 := h.numLe20; have a5 := Zn.birth_size h.birth; have a6 := Zn.sex_le h.sex; have a7 := Zn.prE_size h.exp; have a8 := h.optLe; have a9 := h.secLe
  unfold Zn.Z.fits; omega
/-- Lines of a format. -/
def LinesOf (K : List ByteArray) : Prop := ∃ f, (1 ≤ f ∧ f ≤ 3) ∧ K.length = Zn.nLines f ∧ ∀ s ∈ K, s.size = Zn.wLine f
theorem LinesOf.small {K : List ByteArray} (h : LinesOf K) : (2 ≤ K.length ∧ K.length ≤ 3) ∧ ∀ s ∈ K, 30 ≤ s.size ∧ s.size ≤ 44 := by
  obtain ⟨f, hf, h1, h2⟩ := h
  refine ⟨by rw [h1]; unfold Zn.nLines; split <;> omega, fun s hs => ?_⟩
  rw [h2 s hs]
  unfold Zn.wLine
  repeat' split
  all_goals omega
theorem bldK_lines {z : Zn.Z} (h : Zn.Good z) : LinesOf (Zn.bldK z) := by
  have hf := h.fmt
  have hS := Zn.asm_len z.fmt.toNat (by omega) _ (Zn.bld_wide z.fmt.toNat z)
  refine ⟨z.fmt.toNat, by omega, ?_, fun s hs => ?_⟩
  · unfold Zn.bldK
    rw [List.length_map]
    exact hS.1
  · obtain ⟨l, hl, rfl⟩ := List.mem_map.1 hs
    have h1 := hS.2 l hl
    rw [arr_size, h1]
set_option maxRecDepth 100000 in
set_option maxHeartbeats 4000000 in
/-- The maker's lines. -/
theorem made_lines (g : Nat) (w : World) (hd : DiceAt g g w) :
    Calls Tryz.prog 15 #[.pointer (some ⟨g, 0, none⟩)] w fun e w' => ∃ A c K, e = .returned (.slice A (K : List ByteArray).length c) ∧ LinesOf K ∧ TextsAt w' A K ∧ DiceAt g g w' ∧ w.grownBy w' (some g) := by
  go_enter Tryz.func15, Tryz.ntmps15
  go_wp2_with fail
  refine (made_zone g g w hd).mono ?_; rintro e w1 ⟨z, rfl, hz, hd1, hg1⟩
  have HG := Lib.hid hg1
  have HZ := Lib.hid hz; have HD := Lib.hid hd1
  clear hd hd1 hg1 hz
  have HRB := Lib.hid (rbuild z w1 (fits_le12 (fits_good12 HZ.out) (by decide)) (by have h1 := HZ.out.2.1; have h2 := HZ.out.2.2; omega))
  go_wp2_with fail
  refine HRB.out.mono ?_; rintro e w2 ⟨v, rfl, _, hown, hb⟩
  have ho := hown HZ.out.1.vld
  obtain ⟨b, c, rfl, _, ht⟩ := own_texts ho
  have HT := Lib.hid ht
  have HGR := Lib.hid (grown_trans HG.out (grown_of_below hb (some g)))
  have HD2 := Lib.hid (HD.out.below hb HD.out.lt)
  clear hown hb ho ht
  go_wp2_with fail
  go_ret
  exact ⟨b, c, _, rfl, bldK_lines HZ.out.1, HT.out, HD2.out, HGR.out⟩
end Go.Proofs.YtafbhadfeemppaaGreatDoor

namespace Go.Proofs.YtafbhadfeemppaaGreatDoor
open Go.RowKit

/-- Readings, as a plain list. -/
theorem ks_prod (L : List (List UInt8)) (H Wd : Nat) : KS L H Wd (Rd.size L) = ((Rd.prod L).map (lineS H Wd)).filter fun R => decide (Zn.prsE (txts R) = 0) := by
  unfold KS
  congr 1
  apply List.ext_getElem
  · rw [List.length_map, List.length_map, List.length_range, Rd.prod_length]
  · intro i h1 h2
    have hi : i < (Rd.prod L).length := by rw [List.length_map] at h2; exact h2
    rw [List.getElem_map, List.getElem_map, List.getElem_range]
    unfold choice
    rw [List.getD_eq_getElem?_getD, List.getElem?_eq_getElem hi]; rfl
theorem dbt_form {R : List ByteArray} (hl : LinesOf R) {K : List (List ByteArray)} (h1 : K.length = R.length) (h2 : ∀ i (h : i < K.length) (h' : i < R.length), K[i].length = R[i].size) : fmN (K.map List.length) ≠ 0 ∧ (K.headD []).length = (R.headD ByteArray.empty).size := by
  obtain ⟨f, hf, a1, a2⟩ := hl
  have hw : ∀ i (h : i < K.length), K[i].length = Zn.wLine f := fun i h => by
    rw [h2 i h (by omega)]; exact a2 _ (List.getElem_mem _)
  have hn : 0 < K.length := by rw [h1, a1]; unfold Zn.nLines; split <;> omega
  have hh : (K.map List.length).headD 0 = Zn.wLine f := by
    cases K with
    | nil => simp at hn
    | cons a t => exact hw 0 hn
  have hh2 : (K.headD []).length = Zn.wLine f := by
    cases K with
    | nil => simp at hn
    | cons a t => exact hw 0 hn
  have hR : 0 < R.length := by omega
  have hh3 : (R.headD ByteArray.empty).size = Zn.wLine f := by
    cases R with
    | nil => simp at hR
    | cons a t => exact a2 a (by simp)
  refine ⟨?_, by rw [hh2, hh3]⟩
  rw [fmN_yes (fun i hi => by rw [hh, List.getElem_map]; exact hw i (by simpa using hi)), hh, List.length_map, h1, a1]
  have : f = 1 ∨ f = 2 ∨ f = 3 := by omega
  rcases this with rfl | rfl | rfl <;> decide
theorem form_ok {R : List ByteArray} (hl : LinesOf R) {K : List (List ByteArray)} (h1 : K.length = R.length) (h2 : ∀ i (h : i < K.length) (h' : i < R.length), K[i].length = R[i].size) (h3 : ∀ r ∈ K, ∀ s ∈ r, s.size ≠ 0) : okG K = true :=
  okG_yes (fun _ hi s hs => h3 _ (List.getElem_mem hi) s hs) (dbt_form hl h1 h2).1
theorem dbt_ok {R : List ByteArray} (hl : LinesOf R) {K : List (List ByteArray)} {n : Nat} {inn : Bool} (h : Dbt R K n inn) : okG K = true := form_ok hl h.1 h.2.1 fun r hr s hs => (h.2.2.1 r hr s hs).1
theorem cnt_ok {K : List (List ByteArray)} (h : okG K = true) (h2 : Rd.size (flatG K) ≤ 4096) : cntE K = 0 := by
  unfold cntE
  rw [if_neg (by rw [h]; decide), if_neg (by omega)]
theorem srt_swap (a b : List UInt8) : Rd.srt (a ++ b) = Rd.srt (b ++ a) :=
  Rd.srt_is (Rd.srt_asc _) fun c => by rw [Rd.mem_srt, List.mem_append, List.mem_append]; exact Or.comm
/-- Further characters at a place. -/
theorem grow_facts {R : List ByteArray} (hl : LinesOf R) {K : List (List ByteArray)} {n : Nat} {inn : Bool} (h : Dbt R K n inn) {i k : Nat} (hi : i < K.length) (hk : k < K[i].length) (t : ByteArray) (ht : t.size ≤ 3) :
    okG (putG K i k (K[i][k] ++ t)) = true ∧ Rd.size (flatG (putG K i k (K[i][k] ++ t))) ≤ 4 ^ (n + 1) ∧ (rdK K).Sublist (rdK (putG K i k (K[i][k] ++ t))) ∧ ∀ r ∈ putG K i k (K[i][k] ++ t), ∀ s ∈ r, s.size ≤ 4 + 3 * n := by
  have hold := h.2.2.1 _ (List.getElem_mem hi) _ (List.getElem_mem hk)
  have hso : (K[i][k] ++ t).size = K[i][k].size + t.size := ByteArray.size_append ..
  have hso2 : (t ++ K[i][k]).size = t.size + K[i][k].size := ByteArray.size_append ..
  have hst := h.step (b := true) (s := t ++ K[i][k]) (t := t) hi hk ht (by omega) rfl
  obtain ⟨P, Q, e1, e2⟩ := flat_put hi hk
  have e3 : flatG (putG K i k (K[i][k] ++ t)) = flatG (putG K i k (t ++ K[i][k])) := by
    rw [e2, e2, show (K[i][k] ++ t).data.toList = K[i][k].data.toList ++ t.data.toList by simp, show (t ++ K[i][k]).data.toList = t.data.toList ++ K[i][k].data.toList by simp, srt_swap]
  have hlen := putG_len K i k (K[i][k] ++ t)
  have hrow : ∀ a (ha : a < (putG K i k (K[i][k] ++ t)).length) (h' : a < R.length), (putG K i k (K[i][k] ++ t))[a].length = R[a].size := fun a ha h' => by
    have ha' : a < K.length := by omega
    rw [putG_row ha ha']; exact h.2.1 a ha' h'
  refine ⟨form_ok hl (by rw [hlen]; exact h.1) hrow (fun r hr s hs => ?_), by rw [e3]; exact hst.2.2.2.1, ?_, fun r hr s hs => ?_⟩
  · rcases mem_put hi r hr s hs with rfl | ⟨r', hr', hs'⟩
    · omega
    · exact (h.2.2.1 r' hr' s hs').1
  · unfold rdK
    have hd : ((putG K i k (K[i][k] ++ t)).headD []).length = (K.headD []).length := by
      rw [(dbt_form hl (by rw [hlen]; exact h.1) hrow).2, (dbt_form hl h.1 h.2.1).2]
    rw [hd, hlen, ks_prod, ks_prod]
    refine List.Sublist.filter _ (List.Sublist.map _ (Rd.prod_sub ?_ fun j hj hj' => ?_))
    · rw [e1, e2]; simp
    · have e4 : ∀ (X : List (List UInt8)) (b : List UInt8) (hX : X = P ++ b :: Q) (hj : j < X.length), X[j] = if j < P.length then P.getD j [] else if j = P.length then b else Q.getD (j - P.length - 1) [] := by
        intro X b hX hj
        subst hX
        by_cases q : j < P.length
        · rw [if_pos q, List.getElem_append_left q, List.getD_eq_getElem?_getD, List.getElem?_eq_getElem q]; rfl
        · rw [if_neg q, List.getElem_append_right (by omega)]
          by_cases q2 : j = P.length
          · rw [if_pos q2]; subst q2; simp
          · rw [if_neg q2]
            obtain ⟨m, hm⟩ : ∃ m, j - P.length = m + 1 := ⟨j - P.length - 1, by omega⟩
            have hmQ : m < Q.length := by simp at hj; omega
            simp only [hm, List.getElem_cons_succ, Nat.add_sub_cancel]
            rw [List.getD_eq_getElem?_getD, List.getElem?_eq_getElem hmQ]; rfl
      rw [e4 _ _ e1 hj, e4 _ _ (e2 (K[i][k] ++ t)) hj']
      split
      · exact List.Sublist.refl _
      · split
        · rw [show (K[i][k] ++ t).data.toList = K[i][k].data.toList ++ t.data.toList by simp]
          exact Rd.srt_sub _ _
        · exact List.Sublist.refl _
  · rcases mem_put hi r hr s hs with rfl | ⟨r', hr', hs'⟩
    · have := hold.2; omega
    · have := (h.2.2.1 r' hr' s hs').2; omega
end Go.Proofs.YtafbhadfeemppaaGreatDoor
