/- Chapter 12: slices.Compact at bytes (turned from the worked walk at int); Sort and Compact of a row of bytes. -/
import Derived.Test.YtafbhadfeemppaaGreatDoorRdGS
import Derived.Test.YtafbhadfeemppaaGreatDoorRdPlain
import Derived.Lib.SlicesCompact
import Derived.Lib.SlicesS
import Derived.Lib.SliceRun
import Derived.Lib.RowBridge
namespace Go.Proofs.YtafbhadfeemppaaGreatDoor
open Go.Sort Go.RowKit Go.Lib
theorem store_world_int {w wr : World} {n blk off : Nat} {dk : Array Int} {i : Nat} (hi : i < dk.size) (hwr : wr = putRow encI (Sort.ahead w n) blk off dk) (x : Int) :
    (wr.setCell ⟨blk, off + i, none⟩ (encI x)).drew = putRow encI (Sort.ahead w (n + 1)) blk off (dk.setIfInBounds i x) := by
  subst hwr
  rw [putRow_set encI _ blk off dk i x hi, ← ahead_drew]
  rfl
set_option maxHeartbeats 4000000 in
set_option maxRecDepth 1000000 in
theorem SoB.slices_Compact_int_arr (blk off cap : Nat) (d : Array Int) (w : World) (hH : Holds encI w blk off d) (hsz : d.size ≤ 9223372036854775807) (hcap : d.size ≤ cap) :
    Calls Tryz.prog 76 #[.slice (some ⟨blk, off, none⟩) d.size cap] w fun e w' => e = .returned (.slice (some ⟨blk, off, none⟩) (compactUpTo d d.size).length cap) ∧ ∃ q, w' = putRow encI (Sort.ahead w q) blk off (compactUpTo d d.size ++ List.replicate (d.size - (compactUpTo d d.size).length) 0).toArray := by
  have same : ∀ q, (∀ j, j < d.size → keeps d j = true) → (compactUpTo d d.size).length = d.size ∧ w.drewN q = putRow encI (Sort.ahead w q) blk off (compactUpTo d d.size ++ List.replicate (d.size - (compactUpTo d d.size).length) 0).toArray := by
    intro q hall
    have e : compactUpTo d d.size = d.toList := by rw [compactUpTo_all d _ hall, range_map_get]
    rw [e]
    refine ⟨by simp, ?_⟩
    simp only [Array.length_toList, Nat.sub_self, List.replicate_zero, List.append_nil, Array.toArray_toList]
    exact (putRow_self encI (Sort.ahead w q) blk off d (holds_ahead encI w q blk off d hH)).symm
  have HS : Aside (∀ q, (∀ j, j < d.size → keeps d j = true) → (compactUpTo d d.size).length = d.size ∧ w.drewN q = putRow encI (Sort.ahead w q) blk off (compactUpTo d d.size ++ List.replicate (d.size - (compactUpTo d d.size).length) 0).toArray) := same
  clear same
  by_cases h2 : d.size < 2
  · have HH : Aside (Holds encI w blk off d) := hH
    clear hH
    go_enter Tryz.func76, Tryz.ntmps76
    go_wp2
    go_ret
    obtain ⟨e1, e2⟩ := HS.out 0 (fun j hj => keeps_lt_one d j (by omega))
    exact ⟨by rw [e1]; rfl, 0, e2⟩
  · go_enter Tryz.func76, Tryz.ntmps76
    go_wp2
    go_loopg [3] d.size (fun g s3 wr => ∃ k q : Nat, 1 ≤ k ∧ k ≤ d.size ∧ d.size - k ≤ g ∧ s3 = .int .i64 k ∧ wr = w.drewN q ∧ ∀ j, j < k → keeps d j = true)
    case atStart => exact ⟨1, 0, Nat.le_refl _, by omega, by omega, rfl, rfl, keeps_lt_one d⟩
    case round =>
      obtain ⟨k, q, hk1, hk, hg, rfl, rfl, hall⟩ := hrel
      by_cases hlt : k < d.size
      · obtain ⟨c1, f1⟩ := hH k hlt
        obtain ⟨c0, f0⟩ := hH (k - 1) (by omega)
        have A : Aside (∀ j, j < k → keeps d j = true) := hall
        have HH : Aside (Holds encI w blk off d) := hH
        clear hall hH
        generalize hx : d[k]! = x at c1
        generalize hy : d[k - 1]! = y at c0
        have B : Aside (d[k]! = x ∧ d[k - 1]! = y) := ⟨hx, hy⟩
        clear hx hy
        by_cases hdup : x = y
        · subst hdup
          go_wp2_with fail
          go_region
          go_wp2
          clear c0 c1 f0 f1
          go_loopg [3, 5] d.size (fun g s3 s5 wr => ∃ (kk k2 q2 : Nat) (dk : Array Int), s3 = .int .i64 kk ∧ s5 = .int .i64 k2 ∧ 1 ≤ k2 ∧ k + k2 ≤ d.size ∧ d.size - (k + k2) ≤ g ∧ wr = putRow encI (Sort.ahead w q2) blk off dk ∧ CompInv d (k + k2) kk dk)
          case atStart => exact ⟨k, 1, q + 1, d, rfl, rfl, Nat.le_refl _, by omega, by omega, (putRow_self encI (Sort.ahead w (q + 1)) blk off d (holds_ahead encI w (q + 1) blk off d HH.out)).symm, CompInv.start A.out (keeps_neg (by omega) (by rw [B.out.1, B.out.2]))⟩
          case round =>
            obtain ⟨kk, k2, q2, dk, rfl, rfl, h1, hle, hg2, hwr, hI⟩ := hrel
            have hkk := hI.lt
            have hds := hI.size
            have hHk : Holds encI wr blk off dk := by rw [hwr]; exact holds_putRow encI _ blk off d dk (holds_ahead encI w q2 blk off d HH.out) hds
            have W2 : Aside (wr = putRow encI (Sort.ahead w q2) blk off dk) := hwr
            have I2 : Aside (CompInv d (k + k2) kk dk) := hI
            clear hwr
            by_cases hlt2 : k + k2 < d.size
            · obtain ⟨cm, _⟩ := hHk (k + k2) (by omega)
              obtain ⟨cp, _⟩ := hHk (k + k2 - 1) (by omega)
              obtain ⟨ck, fk⟩ := hHk kk (by omega)
              rw [hI.high (k + k2) (by omega), show off + (k + k2) = off + k + k2 by omega] at cm
              rw [hI.high (k + k2 - 1) (by omega), show off + (k + k2 - 1) = off + k + (k2 - 1) by omega] at cp
              clear hHk hI
              generalize hu : d[k + k2]! = u at cm
              generalize hv : d[k + k2 - 1]! = v at cp
              generalize dk[kk]! = old at ck
              have C : Aside (d[k + k2]! = u ∧ d[k + k2 - 1]! = v) := ⟨hu, hv⟩
              clear hu hv
              by_cases huv : u = v
              · subst huv
                go_wp2_with fail
                go_region
                go_wp2
                go_roundg (d.size - (k + (k2 + 1)))
                case measure => omega
                case rel => exact ⟨kk, k2 + 1, q2 + 1, dk, rfl, by go_num, by omega, by omega, Nat.le_refl _, by rw [W2.out]; rfl, I2.out.skip (keeps_neg (by omega) (by rw [C.out.1, C.out.2]))⟩
              · go_wp2_with fail
                go_region
                go_wp2
                go_roundg (d.size - (k + (k2 + 1)))
                case measure => omega
                case rel => exact ⟨kk + 1, k2 + 1, q2 + 1, dk.setIfInBounds kk u, by go_num, by go_num, by omega, by omega, Nat.le_refl _, store_world_int (by omega) W2.out u, by have := I2.out.keep hlt2 (keeps_pos (by rw [C.out.1, C.out.2]; exact huv)); rwa [C.out.1] at this⟩
            · have hend : k + k2 = d.size := by omega
              have hcl : ∀ ty, (Builtin.clear_ #[59] ty #[.slice (some ⟨blk, off + kk, none⟩) (d.size - kk) (cap - kk)]).run Tryz.prog wr = .ok (.tuple #[]) (wr.setCells blk (off + kk) (List.replicate (d.size - kk) (encI 0))) :=
                fun ty => Lib.run_clear_slice wr _ _ ty _ Tryz.underlying59 (fun _ => by kernel_rfl) rfl rfl blk (off + kk) _ _ (by omega) (fun j hj => by rw [show off + kk + j = off + (kk + j) by omega, (hHk (kk + j) (by omega)).1]; rfl) (fun j hj => by rw [show off + kk + j = off + (kk + j) by omega]; exact (hHk (kk + j) (by omega)).2)
              clear hHk hI
              go_wp2
              go_ret
              have hI := I2.out
              rw [hend] at hI
              refine ⟨by rw [hI.len]; rfl, q2, ?_⟩
              rw [hI.len, ← hI.done 0, ← putRow_setCells encI _ blk off _ dk kk (by simp; omega), ← W2.out, List.map_replicate]
        · go_wp2_with fail
          go_region
          go_wp2
          go_roundg (d.size - (k + 1))
          case measure => omega
          case rel =>
            refine ⟨k + 1, q + 1, by omega, by omega, Nat.le_refl _, by go_num, rfl, fun j hj => ?_⟩
            by_cases e : j = k
            · subst e
              exact keeps_pos (by rw [B.out.1, B.out.2]; exact hdup)
            · exact A.out j (by omega)
      · have : k = d.size := by omega
        subst this
        have HH : Aside (Holds encI w blk off d) := hH
        clear hH
        go_wp2
        go_ret
        obtain ⟨e1, e2⟩ := HS.out q hall
        exact ⟨by rw [e1]; rfl, q, e2⟩
theorem SoB.slices_Compact_int (blk off cap : Nat) (zs : List Int) (w : World) (hH : Holds (Value.int .u8) w blk off zs.toArray) (hsz : zs.length ≤ 9223372036854775807) (hcap : zs.length ≤ cap) :
    Calls Tryz.prog 76 #[.slice (some ⟨blk, off, none⟩) zs.length cap] w fun e w' => e = .returned (.slice (some ⟨blk, off, none⟩) (Lib.compact zs).length cap) ∧ ∃ q, w' = putRow (Value.int .u8) (Sort.ahead w q) blk off (Lib.compact zs ++ List.replicate (zs.length - (Lib.compact zs).length) 0).toArray := by
  have h := SoB.slices_Compact_int_arr blk off cap zs.toArray w hH (by simpa using hsz) (by simpa using hcap)
  simpa [Lib.compact] using h
/-- The bytes as numbers. -/
def ZI (l : List UInt8) : List Int := l.map fun c => (c.toNat : Int)
theorem grownBy_rowB {w : World} {g n : Nat} {os : Array Obj} (d : Array Int) : w.grownBy (grow (putRow (Value.int .u8) (Sort.ahead w n) g 0 d) os) (some g) := by
  refine ⟨rfl, rfl, rfl, by simp, fun k hk hne => ?_⟩
  rw [heap_grow_old _ _ (by simpa using hk)]
  have : g ≠ k := fun e => hne (by rw [e])
  simp [putRow, mapBlock, Sort.ahead, Array.getElem?_modify, this]
theorem holds_bytes {w : World} {b : Nat} {l : List UInt8} (h : BytesAt w b l) : Holds (Value.int .u8) w b 0 (ZI l).toArray := by
  intro j hj
  have hj' : j < l.length := by simpa [ZI] using hj
  obtain ⟨h1, h2⟩ := h j hj'
  rw [Nat.zero_add]
  refine ⟨?_, h2⟩
  rw [h1]
  simp [ZI, hj']
theorem bytes_holds {w : World} {b : Nat} {l : List UInt8} {r : List Int} (h : Holds (Value.int .u8) w b 0 (ZI l ++ r).toArray) : BytesAt w b l := by
  intro j hj
  obtain ⟨h1, h2⟩ := h j (by simp [ZI]; omega)
  rw [Nat.zero_add] at h1 h2
  refine ⟨?_, h2⟩
  rw [h1]
  simp [ZI, hj, List.getElem?_append]
theorem zi_sort (l : List UInt8) : ((ZI l).mergeSort fun x y => decide (x ≤ y)) = ZI (l.mergeSort fun x y => decide (x ≤ y)) := by
  unfold ZI
  rw [List.map_mergeSort]
  intro a _ b _
  rw [decide_eq_decide, UInt8.le_iff_toNat_le]
  omega
theorem zi_keeps (l : List UInt8) (j : Nat) (hj : j < l.length) : keeps (ZI l).toArray j = keeps l.toArray j := by
  unfold keeps
  rw [decide_eq_decide]
  have e1 : (ZI l).toArray[j]! = (l[j].toNat : Int) := by simp [ZI, hj]
  have e2 : l.toArray[j]! = l[j] := by simp [hj]
  have e3 : (ZI l).toArray[j - 1]! = (l[j - 1].toNat : Int) := by simp [ZI, show j - 1 < l.length by omega]
  have e4 : l.toArray[j - 1]! = l[j - 1] := by simp [show j - 1 < l.length by omega]
  rw [e1, e2, e3, e4]
  have : (l[j].toNat : Int) ≠ (l[j - 1].toNat : Int) ↔ l[j] ≠ l[j - 1] := not_congr ⟨fun h => UInt8.toNat_inj.1 (by omega), fun h => by rw [h]⟩
  rw [this]
theorem zi_compact (l : List UInt8) : compact (ZI l) = ZI (compact l) := by
  unfold compact
  have hl : (ZI l).length = l.length := by simp [ZI]
  rw [hl]
  have key : ∀ m, m ≤ l.length → compactUpTo (ZI l).toArray m = ZI (compactUpTo l.toArray m) := by
    intro m
    induction m with
    | zero => intro _; simp [compactUpTo, ZI]
    | succ m ih =>
      intro hm
      rw [compactUpTo_succ, compactUpTo_succ, ih (by omega), zi_keeps l m (by omega)]
      have e1 : (ZI l).toArray[m]! = (l[m].toNat : Int) := by simp [ZI, show m < l.length by omega]
      have e2 : l.toArray[m]! = l[m] := by simp [show m < l.length by omega]
      rw [e1, e2]
      unfold ZI
      rw [List.map_append]
      congr 1
      split <;> rfl
  exact key _ (Nat.le_refl _)
/-- slices.Sort of a row of bytes. -/
theorem osort (l : List UInt8) (b c : Nat) (w : World) (h : BytesAt w b l) (hb : b < w.heap.size) (hl : l.length < 4611686018427387904) :
    Calls Tryz.prog 62 #[.slice (some ⟨b, 0, none⟩) l.length c] w fun e w' => e = .returned (.tuple #[]) ∧ BytesAt w' b (l.mergeSort fun x y => decide (x ≤ y)) ∧ w.grownBy w' (some b) := by
  have hz : (ZI l).length = l.length := by simp [ZI]
  have := SoB.slices_Sort_int b 0 c (ZI l) w (holds_bytes h) hb (by rw [hz]; exact hl)
  rw [hz] at this
  refine this.mono ?_
  rintro e w' ⟨he, n, os, rfl⟩
  refine ⟨he, ?_, grownBy_rowB _⟩
  rw [zi_sort]
  refine bytes_holds (r := []) ?_
  rw [List.append_nil]
  exact holds_grow _ _ _ _ _ _ (by simpa using hb) (holds_putRow _ _ _ _ (ZI l).toArray _ (holds_ahead _ _ _ _ _ _ (holds_bytes h)) (by simp [ZI]))
/-- slices.Compact of a row of bytes. -/
theorem ocompact (l : List UInt8) (b c : Nat) (w : World) (h : BytesAt w b l) (hl : l.length ≤ 9223372036854775807) (hc : l.length ≤ c) :
    Calls Tryz.prog 76 #[.slice (some ⟨b, 0, none⟩) l.length c] w fun e w' => e = .returned (.slice (some ⟨b, 0, none⟩) (compact l).length c) ∧ BytesAt w' b (compact l) ∧ w.grownBy w' (some b) := by
  have hz : (ZI l).length = l.length := by simp [ZI]
  have hz2 : (ZI (compact l)).length = (compact l).length := by simp [ZI]
  have := SoB.slices_Compact_int b 0 c (ZI l) w (holds_bytes h) (by rw [hz]; exact hl) (by rw [hz]; exact hc)
  rw [zi_compact, hz, hz2] at this
  refine this.mono ?_
  rintro e w' ⟨he, q, rfl⟩
  refine ⟨he, ?_, by have := grownBy_rowB (w := w) (g := b) (n := q) (os := #[]) (ZI (compact l) ++ List.replicate (l.length - (compact l).length) 0).toArray; rwa [grow_empty] at this⟩
  refine bytes_holds (holds_putRow _ _ _ _ (ZI l).toArray _ (holds_ahead _ _ _ _ _ _ (holds_bytes h)) ?_)
  have := compact_length_le l
  simp [ZI]; omega
theorem mem_upto (d : Array UInt8) (x : UInt8) : ∀ m, m ≤ d.size → (x ∈ compactUpTo d m ↔ ∃ j, j < m ∧ d[j]! = x) := by
  intro m
  induction m with
  | zero => intro _; simp [compactUpTo]
  | succ m ih =>
    intro hm
    rw [compactUpTo_succ, List.mem_append, ih (by omega)]
    constructor
    · rintro (⟨j, h1, h2⟩ | h)
      · exact ⟨j, by omega, h2⟩
      · split at h
        · rw [List.mem_singleton] at h; exact ⟨m, by omega, h.symm⟩
        · simp at h
    · rintro ⟨j, h1, h2⟩
      rcases Nat.lt_or_ge j m with g | g
      · exact .inl ⟨j, g, h2⟩
      · obtain rfl : j = m := by omega
        by_cases hk : keeps d j = true
        · right; rw [if_pos hk, h2]; simp
        · left
          cases j with
          | zero => exact absurd (keeps_lt_one d 0 (by omega)) hk
          | succ j =>
            refine ⟨j, by omega, ?_⟩
            rw [← h2]
            exact (by simpa [keeps] using hk : d[j + 1]! = d[j]!).symm
/-- A row in order, its repetitions struck, is strictly ascending. -/
theorem upto_asc (d : Array UInt8) (hd : ∀ i j, i ≤ j → j < d.size → d[i]! ≤ d[j]!) : ∀ m, m ≤ d.size → (compactUpTo d m).Pairwise (· < ·) := by
  intro m
  induction m with
  | zero => intro _; simp [compactUpTo]
  | succ m ih =>
    intro hm
    rw [compactUpTo_succ]
    split
    · rename_i hk
      refine List.pairwise_append.2 ⟨ih (by omega), by simp, fun a ha b hb => ?_⟩
      rw [List.mem_singleton] at hb
      subst hb
      obtain ⟨j, hj, rfl⟩ := (mem_upto d a m (by omega)).1 ha
      have hm0 : m ≠ 0 := by omega
      have h1 := hd j (m - 1) (by omega) (by omega)
      have h2 := hd (m - 1) m (by omega) (by omega)
      have h3 : d[m]! ≠ d[m - 1]! := by simpa [keeps, hm0] using hk
      have h4 : d[m]!.toNat ≠ d[m - 1]!.toNat := fun e => h3 (UInt8.toNat_inj.1 e)
      rw [UInt8.le_iff_toNat_le] at h1 h2
      rw [UInt8.lt_iff_toNat_lt]
      omega
    · rw [List.append_nil]; exact ih (by omega)
/-- Sorted, its repetitions struck: the bytes in ascending order, each once. -/
theorem compact_sort (l : List UInt8) : compact (l.mergeSort fun x y => decide (x ≤ y)) = Rd.srt l := by
  have hs : (l.mergeSort fun x y => decide (x ≤ y)).Pairwise fun x y => decide (x ≤ y) = true := List.pairwise_mergeSort (fun a b c h1 h2 => by
    simp only [decide_eq_true_eq, UInt8.le_iff_toNat_le] at *; omega) (fun a b => by
    simp only [Bool.or_eq_true, decide_eq_true_eq, UInt8.le_iff_toNat_le]; omega) l
  have hp : (l.mergeSort fun x y => decide (x ≤ y)).Perm l := List.mergeSort_perm _ _
  generalize (l.mergeSort fun x y => decide (x ≤ y)) = m at hs hp
  have hg : ∀ i (h : i < m.length), m.toArray[i]! = m[i] := fun i h => by simp [h]
  refine Rd.srt_is ?_ fun c => ?_
  · unfold compact
    refine upto_asc _ (fun i j hij hj => ?_) _ (by simp)
    have hj' : j < m.length := by simpa using hj
    rw [hg i (by omega), hg j hj']
    rcases Nat.lt_or_ge i j with h | h
    · have := List.pairwise_iff_getElem.1 hs i j (by omega) hj' h
      simpa using this
    · obtain rfl : i = j := by omega
      rw [UInt8.le_iff_toNat_le]; omega
  · unfold compact
    rw [mem_upto _ _ _ (by simp), ← hp.mem_iff]
    constructor
    · rintro ⟨j, h1, h2⟩
      rw [← h2, hg j h1]
      exact List.getElem_mem _
    · intro h
      obtain ⟨j, hj, e⟩ := List.getElem_of_mem h
      exact ⟨j, hj, by rw [hg j hj]; exact e⟩
end Go.Proofs.YtafbhadfeemppaaGreatDoor
