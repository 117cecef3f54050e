/- Chapter 42: which strands are valid: the walk of the program's Valid. -/
import Derived.Test.YtihbmgkbipeakaaGreatStrGA
import Derived.Test.YtihbmgkbipeakaaGreatTermIsN
import Derived.Test.YtihbmgkbipeakaaGreatTermName
namespace Go.Proofs.YtihbmgkbipeakaaGreat
open Go.RowKit

/-- The first error of moves, K the variables known by then; 0 if there is none. -/
def okMoves (K : List ByteArray) : List (Int × T) → Int
  | [] => 0
  | m :: r => if m.1 < 1 ∨ 4 < m.1 then 61 else if m.2.isN = false then 76 else if m.1 = 2 then okMoves (K ++ m.2.vars) r else if (m.2.vars.any fun s => !Lib.containsS K s) = true then 70 else okMoves K r
theorem contains_congr {K K' : List ByteArray} (h : ∀ x, x ∈ K ↔ x ∈ K') (s : ByteArray) : Lib.containsS K s = Lib.containsS K' s := by
  rw [Bool.eq_iff_iff, contains_iff, contains_iff]; exact h s
theorem okMoves_congr : ∀ (l : List (Int × T)) {K K' : List ByteArray}, (∀ x, x ∈ K ↔ x ∈ K') → okMoves K l = okMoves K' l
  | [], _, _, _ => rfl
  | m :: r, K, K', h => by
    simp only [okMoves]
    rw [okMoves_congr r (K := K ++ m.2.vars) (K' := K' ++ m.2.vars) (fun x => by rw [List.mem_append, List.mem_append, h x]), okMoves_congr r h]
    have e : (fun s => !Lib.containsS K s) = fun s => !Lib.containsS K' s := funext fun s => by rw [contains_congr h s]
    rw [e]
/-- The first error of a strand. -/
def okStrand (role : ByteArray) (ms : List (Int × T)) : Int := if T.isName role = false then 60 else if ms.length < 1 ∨ 16 < ms.length then 72 else okMoves [] ms
/-- A row of moves that is read. -/
def MovesAt (w : World) (A : Option Addr) (ms : List (Int × T)) : Prop := ms.length = 0 ∨ ∃ b off, A = some ⟨b, off, none⟩ ∧ ∀ i (h : i < ms.length), ∃ A' c', w.cell? ⟨b, off + i * 4, none⟩ = some (.int .i64 ms[i].1) ∧
  w.cell? ⟨b, off + i * 4 + 1, none⟩ = some (.int .i64 ms[i].2.kind) ∧ w.cell? ⟨b, off + i * 4 + 2, none⟩ = some (.string ms[i].2.name) ∧ w.cell? ⟨b, off + i * 4 + 3, none⟩ = some (.slice A' ms[i].2.kids.length c') ∧
  TermAt w (.agg #[.int .i64 ms[i].2.kind, .string ms[i].2.name, .slice A' ms[i].2.kids.length c']) ms[i].2 ∧ -9223372036854775808 ≤ ms[i].1 ∧ ms[i].1 ≤ 9223372036854775807
theorem MovesAt.later {w w' : World} {A : Option Addr} {ms : List (Int × T)} (h : MovesAt w A ms) (hb : Below w.heap.size w w') : MovesAt w' A ms := by
  rcases h with h | ⟨b, off, e, hc⟩
  · exact .inl h
  · refine .inr ⟨b, off, e, fun i hi => ?_⟩
    obtain ⟨A', c', h0, h1, h2, h3, h4, h5⟩ := hc i hi
    exact ⟨A', c', cell_later hb h0, cell_later hb h1, cell_later hb h2, cell_later hb h3, h4.later hb, h5⟩
/-- A box of one cell. -/
def KBox (w : World) (g : Nat) (v : Value) : Prop := w.heap[g]? = some (.cells #[v] 56)
theorem KBox.lt {w : World} {g : Nat} {v : Value} (h : KBox w g v) : g < w.heap.size := (Array.getElem?_eq_some_iff.1 h).1
theorem KBox.cell {w : World} {g : Nat} {v : Value} (h : KBox w g v) : w.cell? ⟨g, 0, none⟩ = some v := by unfold KBox at h; simp [World.cell?, h]
theorem KBox.free {w : World} {g : Nat} {v : Value} (h : KBox w g v) : w.frozen? ⟨g, 0, none⟩ = false := by unfold KBox at h; simp [World.frozen?, h]
theorem KBox.later {w w' : World} {g : Nat} {v : Value} (h : KBox w g v) (hb : Below w.heap.size w w') : KBox w' g v := (hb.block g h.lt).trans h
theorem KBox.grown {w w' : World} {g : Nat} {v : Value} {row : Option Nat} (h : KBox w g v) (hg : w.grownBy w' row) (hr : row ≠ some g) : KBox w' g v := (hg.block g h.lt (fun e => hr e.symm)).trans h
theorem KBox.set {w : World} {g : Nat} {v : Value} (h : KBox w g v) (u : Value) : KBox (w.setCell ⟨g, 0, none⟩ u) g u := by
  unfold KBox at *
  simp [World.setCell, Array.getElem?_modify, h]
/-- What the loop over the moves keeps. -/
def VldAt (w : World) (K : List ByteArray) (wr : World) : Prop :=
  ∃ kv, KBox wr w.heap.size kv ∧ wr.ownsRow (w.heap.size + 1) 9 1 kv K.length (K.map .string) ∧ Below w.heap.size w wr ∧ w.heap.size + 1 ≤ wr.heap.size
theorem VldAt.later {w : World} {K : List ByteArray} {wr wr' : World} (h : VldAt w K wr) (hb : Below wr.heap.size wr wr') : VldAt w K wr' := by
  obtain ⟨kv, h1, h2, h3, h4⟩ := h
  exact ⟨kv, h1.later hb, own_later h2 hb, h3.trans (hb.mono (by omega)), Nat.le_trans h4 hb.size⟩
theorem okMoves_step (K : List ByteArray) (ms : List (Int × T)) (j : Nat) (h : j < ms.length) : okMoves K (ms.drop j) = if (ms[j]).1 < 1 ∨ 4 < (ms[j]).1 then 61 else if (ms[j]).2.isN = false then 76 else if (ms[j]).1 = 2 then okMoves (K ++ (ms[j]).2.vars) (ms.drop (j + 1)) else if ((ms[j]).2.vars.any fun s => !Lib.containsS K s) = true then 70 else okMoves K (ms.drop (j + 1)) := by
  rw [List.drop_eq_getElem_cons h]; rfl

theorem VldAt.put {w wr w8 : World} {K RB : List ByteArray} {kv : Value} {A8 : Option Addr} {n' c8 : Nat} (kb : KBox wr w.heap.size kv) (hlt : ∀ b, kv.ownBlock = some b → w.heap.size + 1 ≤ b ∧ b < wr.heap.size) (hb : Below w.heap.size w wr) (hsz : w.heap.size + 1 ≤ wr.heap.size)
    (hown : w8.ownsRow (w.heap.size + 1) 9 1 (.slice A8 n' c8) n' (K.map .string ++ RB.map .string)) (hn : n' = K.length + RB.length) (hg : wr.grownBy w8 kv.ownBlock) : VldAt w (K ++ RB) (w8.setCell ⟨w.heap.size, 0, none⟩ (.slice A8 n' c8)) := by
  subst hn
  have hgs : w8.grownBy (w8.setCell ⟨w.heap.size, 0, none⟩ (.slice A8 (K.length + RB.length) c8)) (some w.heap.size) :=
    ⟨rfl, rfl, rfl, by simp [World.setCell], fun i _ hn => Below.heap_setCell _ _ _ _ (by show i ≠ w.heap.size; exact fun e => hn (by rw [e]))⟩
  have k8 := kb.grown hg (fun e => by have := (hlt _ e).1; omega)
  refine ⟨_, k8.set _, ?_, ?_, ?_⟩
  · have h := hown.kept hgs (.inr fun e => by have := (hown.lt _ e).1; omega)
    rw [List.length_append, List.map_append]; exact h
  · exact (hb.grown hg (by omega) (fun b h => by have := (hlt b h).1; omega)).setCell (Nat.le_refl _) _
  · have := hg.size; simp [World.setCell]; omega
theorem own_shape {w : World} {base : Nat} {e : TypeId} {v : Value} {n : Nat} {xs : List Value} (h : w.ownsRow base e 1 v n xs) : ∃ A c, v = .slice A n c := by
  rcases h.2 with ⟨rfl, rfl⟩ | ⟨g, cap, cur, rfl, _⟩
  · exact ⟨none, 0, rfl⟩
  · exact ⟨_, cap, rfl⟩

set_option maxRecDepth 100000 in
set_option maxHeartbeats 8000000 in
theorem ovalidS (role : ByteArray) (ms : List (Int × T)) (A : Option Addr) (cap : Nat) (w : World) (hr : role.size ≤ maxLen) (hm : MovesAt w A ms) (hbk : ∀ m ∈ ms, m.2.bulk ≤ 1048576) (hl : ms.length ≤ maxLen) :
    Calls Tryz.prog 28 #[.agg #[.string role, .slice A ms.length cap]] w fun e w' => e = .returned (.int .i64 (okStrand role ms)) ∧ Below w.heap.size w w' := by
  unfold maxLen at hl
  obtain ⟨i0, hi0, hz0, hz1, hz2⟩ := info_parts Tryz.infoStr
  have HNM := Lib.hid (fun W => oname role W hr)
  obtain ⟨RES, hRES⟩ : ∃ r, okStrand role ms = r := ⟨_, rfl⟩
  rw [hRES]
  have hw1 := below_alloc1 w (.cells #[.string role, .slice A ms.length cap] 49)
  have HM1 := Lib.hid (hm.later hw1); have HB1 := Lib.hid hw1; have HZ1 := Lib.hid (size_alloc1 w (.cells #[.string role, .slice A ms.length cap] 49))
  have hbx : (w.alloc (.cells #[.string role, .slice A ms.length cap] 49)).heap[w.heap.size]? = some (.cells #[.string role, .slice A ms.length cap] 49) := heap_alloc_new w _
  have x0 : (w.alloc (.cells #[.string role, .slice A ms.length cap] 49)).cell? ⟨w.heap.size, 0, none⟩ = some (.string role) := by unfold World.cell?; rw [hbx]; rfl
  have x1 : (w.alloc (.cells #[.string role, .slice A ms.length cap] 49)).cell? ⟨w.heap.size, 1, none⟩ = some (.slice A ms.length cap) := by unfold World.cell?; rw [hbx]; rfl
  clear hm hw1 hbx
  go_enter Tryz.func28, Tryz.ntmps28
  go_upto_region 1 with fail
  generalize w.alloc (.cells #[.string role, .slice A ms.length cap] 49) = w1 at HM1 HB1 HZ1 x0 x1 ⊢
  go_wp2_with fail
  refine (HNM.out _).mono ?_; rintro e w2 ⟨rfl, rfl⟩
  by_cases hnm : T.isName role = false
  · have HR := Lib.hid (show (60 : Int) = RES by rw [← hRES]; unfold okStrand; rw [if_pos hnm])
    rw [hnm]
    clear hRES
    go_wp2_with fail
    go_ret
    exact ⟨ret_i64 HR.out, HB1.out⟩
  have hnm' : T.isName role = true := by simpa using hnm
  rw [hnm']
  unfold okStrand at hRES
  rw [if_neg hnm] at hRES
  by_cases hln : ms.length < 1 ∨ 16 < ms.length
  · have HR := Lib.hid (show (72 : Int) = RES by rw [← hRES, if_pos hln])
    clear hRES
    rcases hln with h | h
    · have h' : (ms.length : Int) < 1 := by omega
      go_wp2_with fail
      go_ret
      exact ⟨ret_i64 HR.out, HB1.out⟩
    · have h' : ¬ (ms.length : Int) < 1 := by omega
      have h'' : (16 : Int) < (ms.length : Int) := by omega
      go_wp2_with fail
      go_ret
      exact ⟨ret_i64 HR.out, HB1.out⟩
  rw [if_neg hln] at hRES
  have h1 : (1 : Int) ≤ (ms.length : Int) := by omega
  have h2 : (ms.length : Int) ≤ 16 := by omega
  have HRES := Lib.hid hRES
  clear hRES hnm hnm' hr
  have x1' := cell_later (below_alloc1 w1 (.cells #[.slice none 0 0] 56)) x1
  have hst : VldAt w1 [] (w1.alloc (.cells #[.slice none 0 0] 56)) := ⟨_, heap_alloc_new w1 _, World.ownsRow_nil _ _ _ _, below_alloc1 w1 _, by rw [size_alloc1]; omega⟩
  have HST := Lib.hid hst
  clear hst
  go_upto_region 6 with fail
  generalize w1.alloc (.cells #[.slice none 0 0] 56) = w2 at x1' HST ⊢
  go_wp2_with fail
  clear x0 x1 x1'
  go_loopw [24] (fun i wr => ∃ (j : Nat) (K : List ByteArray), j ≤ ms.length ∧ i = .int .i64 j ∧ VldAt w1 K wr ∧ okMoves K (ms.drop j) = RES ∧ K.length ≤ j * 1048576) (fun i _ => ms.length - (intOf i).toNat)
  case atStart => exact ⟨0, [], Nat.zero_le _, rfl, HST.out, by simpa using HRES.out, by simp⟩
  case round =>
    obtain ⟨j, K, hj, rfl, hv, hok, hkl⟩ := hrel
    by_cases hlt : j < ms.length
    · rw [okMoves_step K ms j hlt] at hok
      rcases HM1.out with h0 | ⟨b, off, rfl, hc⟩
      · omega
      obtain ⟨A', c', d0, d1, d2, d3, htm, hk1, hk2⟩ := hc j hlt
      have hbkj := hbk _ (List.getElem_mem hlt)
      obtain ⟨k, hk⟩ : ∃ k, (ms[j]'hlt).1 = k := ⟨_, rfl⟩
      obtain ⟨t, ht⟩ : ∃ t, (ms[j]'hlt).2 = t := ⟨_, rfl⟩
      rw [hk] at hok d0 hk1 hk2
      rw [ht] at hok d1 d2 d3 htm hbkj
      have hbw : Below w1.heap.size w1 wr := by obtain ⟨_, _, _, h, _⟩ := hv; exact h
      have e0 := cell_later hbw d0; have e1 := cell_later hbw d1; have e2 := cell_later hbw d2; have e3 := cell_later hbw d3
      have hi : (j : Int) < (ms.length : Int) := by omega
      have HLT := Lib.hid hlt; have HOK := Lib.hid hok; have HKL := Lib.hid hkl
      have hw4 := below_alloc1 wr (.cells #[.int .i64 k, .int .i64 t.kind, .string t.name, .slice A' t.kids.length c'] 52)
      have hnw := heap_alloc_new wr (.cells #[.int .i64 k, .int .i64 t.kind, .string t.name, .slice A' t.kids.length c'] 52)
      have HV := Lib.hid (hv.later hw4)
      have HT := Lib.hid ((htm.later hbw).later hw4)
      have HBK := Lib.hid hbkj
      clear d0 d1 d2 d3 hc hok hkl hv htm hbw hk ht hbkj hw4
      go_upto_region 9 with fail
      obtain ⟨g5, hg5⟩ : ∃ g5, wr.heap.size = g5 := ⟨_, rfl⟩
      rw [hg5] at hnw ⊢
      generalize wr.alloc (.cells #[.int .i64 k, .int .i64 t.kind, .string t.name, .slice A' t.kids.length c'] 52) = wq at hnw HV HT ⊢
      have y0 : wq.cell? ⟨g5, 0, none⟩ = some (.int .i64 k) := by unfold World.cell?; rw [hnw]; rfl
      have y1 : wq.cell? ⟨g5, 1, none⟩ = some (.int .i64 t.kind) := by unfold World.cell?; rw [hnw]; rfl
      have y2 : wq.cell? ⟨g5, 2, none⟩ = some (.string t.name) := by unfold World.cell?; rw [hnw]; rfl
      have y3 : wq.cell? ⟨g5, 3, none⟩ = some (.slice A' t.kids.length c') := by unfold World.cell?; rw [hnw]; rfl
      clear e0 e1 e2 e3 hnw hg5
      have hbv : Below w1.heap.size w1 wq := by obtain ⟨_, _, _, h, _⟩ := HV.out; exact h
      have HBV := Lib.hid (HB1.out.trans (hbv.mono HB1.out.size))
      clear hbv
      have hok := HOK.out
      by_cases hkk : k < 1 ∨ 4 < k
      · rw [if_pos hkk] at hok
        have HR := Lib.hid (show (61 : Int) = RES from hok)
        clear hok
        rcases hkk with h | h
        · go_wp2_with fail
          go_ret
          exact ⟨ret_i64 HR.out, HBV.out⟩
        · have h' : ¬ k < 1 := by omega
          go_wp2_with fail
          go_ret
          exact ⟨ret_i64 HR.out, HBV.out⟩
      rw [if_neg hkk] at hok
      have h3 : 1 ≤ k := by omega
      have h4 : k ≤ 4 := by omega
      have HN := Lib.hid (fun W hW => oisn t (.agg #[.int .i64 t.kind, .string t.name, .slice A' t.kids.length c']) W hW HBK.out)
      have HVR := Lib.hid (fun W hW => ovars t (.agg #[.int .i64 t.kind, .string t.name, .slice A' t.kids.length c']) W hW HBK.out)
      generalize t.kind = tk at y1 HT HN HVR ⊢
      generalize t.name = tn at y2 HT HN HVR ⊢
      generalize t.kids.length = tl at y3 HT HN HVR ⊢
      clear hkk
      go_wp2_with fail
      refine (HN.out _ HT.out).mono ?_; rintro e w5 ⟨rfl, hb5⟩
      have HV5 := Lib.hid (HV.out.later hb5); have HT5 := Lib.hid (HT.out.later hb5); have HBV5 := Lib.hid (HBV.out.trans (hb5.mono HBV.out.size))
      have z0 := cell_later hb5 y0; have z1 := cell_later hb5 y1; have z2 := cell_later hb5 y2; have z3 := cell_later hb5 y3
      clear y0 y1 y2 y3 hb5
      by_cases hin : t.isN = false
      · rw [if_pos hin] at hok
        have HR := Lib.hid (show (76 : Int) = RES from hok)
        rw [hin]
        clear hok
        go_wp2_with fail
        go_ret
        exact ⟨ret_i64 HR.out, HBV5.out⟩
      rw [if_neg hin] at hok
      have hin' : t.isN = true := by simpa using hin
      rw [hin']
      have HOK2 := Lib.hid hok
      clear hok hin hin'
      go_wp2_with fail
      refine (HVR.out _ HT5.out).mono ?_; rintro e w6 ⟨A6, c6, R6, rfl, hs6, hb6, hm6, hl6, hc6, hA6⟩
      have HV6 := Lib.hid (HV5.out.later hb6); have HBV6 := Lib.hid (HBV5.out.trans (hb6.mono HBV5.out.size))
      have q0 := cell_later hb6 z0
      obtain ⟨RB, hRB⟩ : ∃ RB : List ByteArray, RB = R6.map (fun l => ⟨l.toArray⟩) := ⟨_, rfl⟩
      have hRl : RB.length = R6.length := by rw [hRB, List.length_map]
      have HTX := Lib.hid (show TextsAt w6 A6 RB by unfold TextsAt; rw [hRl, hRB, List.map_map]; exact hs6)
      have hmem : ∀ x, x ∈ RB ↔ x ∈ t.vars := fun x => by
        rw [← hm6 x, hRB, List.mem_map]
        constructor
        · rintro ⟨l, hl, rfl⟩; simpa using hl
        · intro h; exact ⟨_, h, (str_of x).symm⟩
      have HMEM := Lib.hid hmem
      have HRL := Lib.hid (show RB.length ≤ 1048576 by omega)
      have HA6 := Lib.hid hA6
      rw [← hRl]
      clear hs6 hb6 hm6 hl6 hc6 hA6 hRB hRl z0 z1 z2 z3 hmem
      by_cases k2 : k = 2
      · subst k2
        have hok := HOK2.out
        rw [if_pos rfl] at hok
        have HOK3 := Lib.hid (show okMoves (K ++ RB) (ms.drop (j + 1)) = RES by rw [← hok]; exact okMoves_congr _ (fun x => by rw [List.mem_append, List.mem_append, HMEM.out x]))
        obtain ⟨kv, kb, hown, hbw, hsz⟩ := HV6.out
        have kc := kb.cell; have kf := kb.free
        have hklen : K.length ≤ 17825792 := by have := HKL.out; have := HLT.out; omega
        have HONE := Lib.hid (show ∀ u ∈ RB.map Value.string, u.oneCell' = true from fun u hu => by obtain ⟨b, _, rfl⟩ := List.mem_map.1 hu; rfl)
        have HOWN := Lib.hid hown; have HKB := Lib.hid kb; have HBW := Lib.hid hbw; have HSZ := Lib.hid hsz
        have HLTB := Lib.hid (show ∀ b, kv.ownBlock = some b → w1.heap.size + 1 ≤ b ∧ b < w6.heap.size from hown.lt)
        clear hok hown kb hbw hsz
        have HCL := Lib.hid (show ∀ w8 : World, w6.grownBy w8 kv.ownBlock → KBox w8 w1.heap.size kv from fun w8 hg => HKB.out.grown hg (fun e => by have := (HLTB.out _ e).1; omega))
        go_wp2_with (at_builtin; refine wpList_append_src _ rfl _ _ 56 rfl (w1.heap.size + 1) 9 i0 _ 1 16 Tryz.underlying56 hi0 hz0 hz1 hz2 rfl (by omega) _ _ _ rfl HOWN.out _ RB.length _ (RB.map .string) rfl HTX.out HONE.out (by have := HRL.out; unfold maxLen; omega) (by have := HRL.out; omega) HSZ.out ?_; intro A8 c8 w8 hown8 hg8 hat8; have kb8 := HCL.out w8 hg8; have kc8 := kb8.cell; have kf8 := kb8.free)
        have hfin := VldAt.put HKB.out HLTB.out HBW.out HSZ.out hown8 rfl hg8
        have HFIN := Lib.hid hfin
        clear hown8 hg8 hat8 kb8 kc8 kf8 hfin kc kf q0
        go_roundw
        case rel => exact ⟨j + 1, K ++ RB, HLT.out, by go_num, HFIN.out, HOK3.out, by have := HKL.out; have := HRL.out; rw [List.length_append]; omega⟩
        case measure => have := HLT.out; simp [intOf]; omega
      · have k2' : (k == 2) = false := by rw [beq_eq_false_iff_ne]; exact k2
        have hok := HOK2.out
        rw [if_neg k2] at hok
        obtain ⟨kv, kb, hown, hbw, hsz⟩ := HV6.out
        obtain ⟨AK, cK, rfl⟩ := own_shape hown
        have kc := kb.cell
        have hany : (RB.any fun s => !Lib.containsS K s) = (t.vars.any fun s => !Lib.containsS K s) := by
          rw [Bool.eq_iff_iff, List.any_eq_true, List.any_eq_true]
          constructor
          · rintro ⟨x, hx, h⟩; exact ⟨x, (HMEM.out x).1 hx, h⟩
          · rintro ⟨x, hx, h⟩; exact ⟨x, (HMEM.out x).2 hx, h⟩
        rw [← hany] at hok
        have HCF := Lib.hid (contains_unknown K AK cK w1.heap.size RB A6 c6 w6 (by have := HKL.out; have := HLT.out; omega) kc (Src.of_own hown) (by have := HRL.out; omega) HTX.out)
        generalize (RB.any fun s => !Lib.containsS K s) = q at hok HCF
        have HOK3 := Lib.hid hok
        clear hok hany kb hown hbw hsz kc
        go_wp2_with fail
        refine HCF.out.mono ?_; rintro e w7 ⟨rfl, rfl⟩
        cases q
        · have HOK4 := Lib.hid (show okMoves K (ms.drop (j + 1)) = RES by have h := HOK3.out; rw [if_neg (by decide)] at h; exact h)
          go_wp2_with fail
          go_roundw
          case rel => exact ⟨j + 1, K, HLT.out, by go_num, HV6.out, HOK4.out, Nat.le_trans HKL.out (Nat.mul_le_mul_right _ (Nat.le_succ j))⟩
          case measure => have := HLT.out; simp [intOf]; omega
        · have HR := Lib.hid (show (70 : Int) = RES by have h := HOK3.out; rw [if_pos rfl] at h; exact h)
          go_wp2_with fail
          go_ret
          exact ⟨ret_i64 HR.out, HBV6.out⟩
    · obtain rfl : j = ms.length := by omega
      rw [List.drop_length] at hok
      have HR := Lib.hid (show (0 : Int) = RES from hok)
      have hbw : Below w1.heap.size w1 wr := by obtain ⟨_, _, _, h, _⟩ := hv; exact h
      have HBW := Lib.hid (HB1.out.trans (hbw.mono HB1.out.size))
      clear hv hok hbw
      go_wp2_with fail
      go_ret
      exact ⟨ret_i64 HR.out, HBW.out⟩
end Go.Proofs.YtihbmgkbipeakaaGreat
