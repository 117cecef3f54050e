/- Chapter 12: several texts in one (RdRef2, RdRef3, RdRef4, RdRef5, RdRef6). -/
import Derived.Test.YtafbhadfeemppaaGreatDoorRdGN
import Derived.Test.YtafbhadfeemppaaGreatDoorZonRSmall
import Derived.Test.YtafbhadfeemppaaGreatDoorRdPut
import Derived.Test.YtafbhadfeemppaaGreatDoorZonRParse
import Derived.Test.YtafbhadfeemppaaGreatDoorRdGR
namespace Go.Proofs.YtafbhadfeemppaaGreatDoor
open Go.RowKit

/-- A line of so many letters. -/
def xS (n : Nat) : ByteArray := ⟨(List.replicate n (120 : UInt8)).toArray⟩
theorem xS_size (n : Nat) : (xS n).size = n := by unfold xS; rw [str_size]; simp
theorem xS_succ (n : Nat) : xS n ++ ⟨#[120]⟩ = xS (n + 1) := by
  apply str_eq
  unfold xS
  rw [List.replicate_succ']
  simp
def xG (G : List (List ByteArray)) : List ByteArray := G.map fun r => xS r.length
theorem xG_take {G : List (List ByteArray)} {i : Nat} (h : i < G.length) : xG (G.take (i + 1)) = xG (G.take i) ++ [xS G[i].length] := by
  unfold xG
  rw [List.take_succ_eq_append_getElem h, List.map_append]; rfl
theorem xG_len {G : List (List ByteArray)} {i : Nat} (h : i ≤ G.length) : (xG (G.take i)).length = i := by unfold xG; rw [List.length_map, List.length_take]; omega
theorem okG_small {G : List (List ByteArray)} (h : 3 < G.length) : okG G = false := by
  rw [Bool.eq_false_iff]; intro hk
  obtain ⟨h1, _⟩ := okG_shape hk
  omega
theorem okG_long {G : List (List ByteArray)} {i : Nat} (hi : i < G.length) (h : 44 < G[i].length) : okG G = false := by
  rw [Bool.eq_false_iff]; intro hk
  obtain ⟨h1, h2, _⟩ := okG_shape hk
  have := h2 _ (List.getElem_mem hi)
  omega
/-- The two ways to tell a shape. -/
theorem shape_form (G : List (List ByteArray)) : Zn.shape (txts (xG G)) ≠ 0 ↔ fmN (G.map List.length) ≠ 0 := by
  have hl : (txts (xG G)).length = G.length := by unfold txts xG; simp
  have hm : ∀ n, (∀ l ∈ txts (xG G), l.length = n) ↔ ∀ r ∈ G, r.length = n := by
    intro n
    unfold txts xG
    constructor
    · intro h r hr
      have := h _ (List.mem_map.2 ⟨_, List.mem_map.2 ⟨r, hr, rfl⟩, rfl⟩)
      rwa [Opt.size_len, xS_size] at this
    · intro h l hl
      obtain ⟨s, hs, rfl⟩ := List.mem_map.1 hl
      obtain ⟨r, hr, rfl⟩ := List.mem_map.1 hs
      rw [Opt.size_len, xS_size]; exact h r hr
  have hh : (G.map List.length).headD 0 = (G.headD []).length := by cases G <;> rfl
  constructor
  · intro h hf
    have key : ∀ n, (∀ r ∈ G, r.length = n) → G ≠ [] → fmN (G.map List.length) = fm G.length n := by
      intro n hn h0
      have h1 : (G.map List.length).headD 0 = n := by
        cases G with
        | nil => exact absurd rfl h0
        | cons a t => exact hn a (by simp)
      unfold fmN
      rw [h1, List.length_map, if_pos]
      exact List.all_eq_true.2 fun x hx => by
        obtain ⟨r, hr, rfl⟩ := List.mem_map.1 hx
        exact decide_eq_true (hn r hr)
    unfold Zn.shape at h
    simp only [hl, hm] at h
    split at h
    · rename_i g
      have := key 44 g.2 (by intro e; rw [e] at g; simp at g)
      rw [hf, g.1] at this; exact absurd this (by decide)
    · split at h
      · rename_i g
        have := key 36 g.2 (by intro e; rw [e] at g; simp at g)
        rw [hf, g.1] at this; exact absurd this (by decide)
      · split at h
        · rename_i g
          have := key 30 g.2 (by intro e; rw [e] at g; simp at g)
          rw [hf, g.1] at this; exact absurd this (by decide)
        · exact h rfl
  · intro hf
    have hall : ∀ r ∈ G, r.length = (G.headD []).length := by
      intro r hr
      unfold fmN at hf
      split at hf
      · rename_i ha
        have := of_decide_eq_true (List.all_eq_true.1 ha r.length (List.mem_map.2 ⟨r, hr, rfl⟩))
        rw [this, hh]
      · exact absurd rfl hf
    unfold fmN at hf
    split at hf
    · rw [hh, List.length_map] at hf
      unfold Zn.shape
      simp only [hl, hm]
      unfold fm at hf
      split at hf
      · rename_i g
        rw [g.2] at hall
        rw [if_neg (by omega), if_neg (by omega), if_pos ⟨g.1, hall⟩]; decide
      · split at hf
        · rename_i g
          rw [g.2] at hall
          split
          · decide
          · rw [if_pos ⟨g.1, hall⟩]; decide
        · split at hf
          · rename_i g
            rw [g.2] at hall
            rw [if_pos ⟨g.1, hall⟩]; decide
          · exact absurd rfl hf
    · exact absurd rfl hf
set_option maxRecDepth 100000 in
set_option maxHeartbeats 4000000 in
theorem rcomplete (G : List (List ByteArray)) (A : Option Addr) (c : Nat) (w : World) (hG : GridAt w A G) (hn : G.length ≤ 1099511627776) (hr : ∀ r ∈ G, r.length ≤ 1099511627776) :
    Calls Tryz.prog 49 #[.slice A G.length c] w fun e w' => e = .returned (.bool (okG G)) ∧ Below w.heap.size w w' := by
  have HG := Lib.hid hG; have HRL := Lib.hid hr
  clear hG hr
  go_enter Tryz.func49, Tryz.ntmps49
  go_wp2_with fail
  go_loopw [3, 4] (fun v3 v4 wr => ∃ i : Nat, i ≤ G.length ∧ i ≤ 4 ∧ v4 = .int .i64 i ∧ wr.ownsRow w.heap.size 9 1 v3 i ((xG (G.take i)).map .string) ∧ Below w.heap.size w wr ∧ ∀ a (ha : a < G.length), a < i → ∀ s ∈ G[a], s.size ≠ 0)
    (fun _ v4 _ => 4 - (intOf v4).toNat)
  case atStart => exact ⟨0, Nat.zero_le _, by omega, rfl, World.ownsRow_nil _ _ _ _, Below.refl _ _, fun i _ h => absurd h (by omega)⟩
  case round =>
    obtain ⟨i, hi, hi4, rfl, hown, hb, hne⟩ := hrel
    have HNE := Lib.hid hne; have HO := Lib.hid hown; have HB := Lib.hid hb
    clear hne hown hb
    by_cases hlt : i < G.length
    · by_cases h4 : i < 4
      · obtain ⟨b, off, rfl, hcell⟩ : ∃ b off, A = some ⟨b, off, none⟩ ∧ ∀ i (h : i < G.length), ∃ Ai ci, w.cell? ⟨b, off + i, none⟩ = some (.slice Ai G[i].length ci) ∧ TextsAt w Ai G[i] := by
          rcases HG.out with h | h
          · omega
          · exact h
        obtain ⟨Ai, ci, e0, ht⟩ := hcell i hlt
        have e1 := cell_later HB.out e0
        obtain ⟨R, hR⟩ : ∃ R, G[i]'hlt = R := ⟨_, rfl⟩
        have hrl := HRL.out _ (List.getElem_mem hlt)
        rw [hR] at e1 ht hrl
        have HR := Lib.hid hR; have HT := Lib.hid (ht.later HB.out); have HLT := Lib.hid hlt; have H4 := Lib.hid h4
        clear hcell e0 hR ht
        by_cases h44 : 44 < R.length
        · have HF := Lib.hid (show okG G = false from okG_long HLT.out (by rw [HR.out]; exact h44))
          go_wp2_with fail
          go_ret
          rw [HF.out]
          exact ⟨rfl, HB.out⟩
        · go_wp2_with fail
          go_loop [5, 6] (fun v5 v6 => ∃ k : Nat, k ≤ R.length ∧ v6 = .int .i64 k ∧ v5 = .string (xS k) ∧ ∀ a (ha : a < R.length), a < k → R[a].size ≠ 0) (fun _ v6 => R.length - (intOf v6).toNat)
          case atStart => exact ⟨0, Nat.zero_le _, rfl, rfl, fun a _ h => absurd h (by omega)⟩
          case round =>
            obtain ⟨k, hk, rfl, rfl, hne2⟩ := hrel
            have HNE2 := Lib.hid hne2
            clear hne2
            have hxs := xS_size k
            obtain ⟨x, hx⟩ : ∃ x, xS k = x := ⟨_, rfl⟩
            rw [hx] at hxs ⊢
            have HX := Lib.hid hx
            clear hx
            by_cases hkt : k < R.length
            · obtain ⟨s, hs0⟩ : ∃ s, R[k]'hkt = s := ⟨_, rfl⟩
              obtain ⟨b2, off2, rfl, e2⟩ := HT.out.cell k hkt
              rw [hs0] at e2
              have HSJ := Lib.hid hs0; have HJ := Lib.hid hkt
              clear hs0
              by_cases hz : s.size = 0
              · obtain ⟨z1, z2, z3⟩ := (empty_is2 s).1 hz
                have HF := Lib.hid (show okG G = false from by
                  have hRk : G[i]'HLT.out = R := HR.out
                  have hj2 : k < (G[i]'HLT.out).length := by rw [hRk]; exact HJ.out
                  refine okG_empty HLT.out hj2 ?_
                  have : (G[i]'HLT.out)[k]'hj2 = s := by simp only [hRk]; exact HSJ.out
                  rw [this]; exact hz)
                clear hz
                go_wp2_with fail
                go_ret
                rw [HF.out]
                exact ⟨rfl, HB.out⟩
              · obtain ⟨z1, z2, z3⟩ := (empty_is2 s).2 hz
                have HZ := Lib.hid hz
                have HXK := Lib.hid (show x ++ ⟨#[120]⟩ = xS (k + 1) by rw [← HX.out]; exact xS_succ k)
                clear hz
                go_wp2_with fail
                go_round
                case rel =>
                  refine ⟨k + 1, HJ.out, by go_num, by rw [← HXK.out], fun a ha h => ?_⟩
                  by_cases e : a = k
                  · subst e; rw [HSJ.out]; exact HZ.out
                  · exact HNE2.out a ha (by omega)
                case measure => have := HJ.out; simp [intOf]; omega
            · obtain rfl : k = R.length := by omega
              have HXL := Lib.hid (show xG (G.take (i + 1)) = xG (G.take i) ++ [x] by rw [xG_take HLT.out, HR.out, HX.out])
              have HXN := Lib.hid (xG_len (G := G) hi)
              obtain ⟨xs, hxs2⟩ : ∃ xs, xG (G.take i) = xs := ⟨_, rfl⟩
              rw [hxs2] at HXL HXN HO
              obtain ⟨i0, hi0, hz0, hz1, hz2⟩ := info_parts Tryz.infoStr
              have HOWN := Lib.hid (HO.out.alloc (.cells #[.string x] 9))
              clear hxs2
              go_wp2_with (at_builtin; refine wpList_append_own_at _ rfl _ _ 29 rfl w.heap.size 9 i0 (.string ByteArray.empty) 1 16 Tryz.underlying29 hi0 hz0 hz1 hz2 rfl (by decide) _ _ _ rfl HOWN.out ⟨wr.heap.size, 0, none⟩ 1 1 [.string x] rfl rfl ?c1 ?c2 ?c3 ?c4 ?c5 ?_)
              case c2 => rfl
              case c3 => unfold maxLen; omega
              case c4 => omega
              case c5 => have := HB.out.size; simp; omega
              · intro u' w4 hown' hgrow _ _
                have HO4 := Lib.hid hown'
                have HB4 := Lib.hid ((HB.out.alloc HB.out.size (.cells #[.string x] 9)).grown hgrow (by have := HB.out.size; simp; omega) (fun j hj => (own_lt HO.out hj).1))
                clear hown' hgrow hi0 hz0 hz1 hz2
                go_wp2_with fail
                go_roundw
                case rel =>
                  refine ⟨i + 1, HLT.out, H4.out, by go_num, by rw [HXL.out, List.map_append]; exact HO4.out, HB4.out, fun a ha h => ?_⟩
                  by_cases e : a = i
                  · subst e
                    intro s hs
                    rw [HR.out] at hs
                    obtain ⟨q, hq, rfl⟩ := List.getElem_of_mem hs
                    exact HNE2.out q hq hq
                  · exact HNE.out a ha (by omega)
                case measure => have := H4.out; simp [intOf]; omega
      · obtain rfl : i = 4 := by omega
        have HF := Lib.hid (show okG G = false from okG_small (by omega))
        go_wp2_with fail
        go_ret
        rw [HF.out]
        exact ⟨rfl, HB.out⟩
    · obtain rfl : i = G.length := by omega
      have HO2 := Lib.hid (show wr.ownsRow w.heap.size 9 1 u3 G.length ((xG G).map .string) by have h := HO.out; rwa [List.take_length] at h)
      have hxl : (xG G).length = G.length := by unfold xG; rw [List.length_map]
      have HOK := Lib.hid (show okG G = decide (Zn.shape (txts (xG G)) ≠ 0) from by
        by_cases hf : fmN (G.map List.length) ≠ 0
        · rw [okG_yes (fun a ha => HNE.out a ha ha) hf, decide_eq_true ((shape_form G).2 hf)]
        · rw [okG_form (Decidable.not_not.1 hf), decide_eq_false (fun h => hf ((shape_form G).1 h))])
      by_cases h4 : G.length < 4
      · have ho2 := HO2.out
        rw [← hxl] at ho2
        obtain ⟨A3, c3, rfl, _, ht⟩ := own_texts ho2
        have HSH := Lib.hid (show Calls Tryz.prog 43 #[.slice A3 G.length c3] wr fun e w' => e = .returned (.int .i64 (Zn.shape (txts (xG G)))) ∧ wr = w' by
          have h := rshape (xG G) A3 c3 wr (by rw [hxl]; omega) ht
          rwa [hxl] at h)
        rw [hxl] at *
        clear ho2 ht hxl
        go_wp2_with fail
        refine HSH.out.mono ?_; rintro e w5 ⟨rfl, rfl⟩
        obtain ⟨q, hq⟩ : ∃ q, Zn.shape (txts (xG G)) = q := ⟨_, rfl⟩
        rw [hq] at HOK ⊢
        clear hq
        by_cases hq0 : q = 0
        · subst hq0
          go_wp2_with fail
          go_ret
          rw [HOK.out]
          exact ⟨rfl, HB.out⟩
        · have hq1 : ((q : Int) != 0) = true := by rw [bne_iff_ne]; omega
          go_wp2_with fail
          go_ret
          rw [HOK.out, decide_eq_true hq0]
          exact ⟨rfl, HB.out⟩
      · have HF := Lib.hid (show okG G = false from okG_small (by omega))
        go_wp2_with fail
        go_ret
        rw [HF.out]
        exact ⟨rfl, HB.out⟩
end Go.Proofs.YtafbhadfeemppaaGreatDoor

namespace Go.Proofs.YtafbhadfeemppaaGreatDoor
open Go.RowKit

theorem size_pre {L P R : List (List UInt8)} (h : L = P ++ R) (hb : ∀ b ∈ L, b ≠ []) : Rd.size P ≤ Rd.size L := by
  rw [h, Rd.size_append]
  exact Nat.le_mul_of_pos_right _ (Rd.size_pos fun b hm => hb b (by rw [h]; exact List.mem_append.2 (.inr hm)))
/-- What lies before a place. -/
def preG (G : List (List ByteArray)) (i k : Nat) : List (List UInt8) := flatG (G.take i) ++ ((G.getD i []).take k).map fun s => Rd.srt s.data.toList
theorem preG_zero (G : List (List ByteArray)) (i : Nat) : preG G i 0 = flatG (G.take i) := by unfold preG; simp
theorem getD_at {G : List (List ByteArray)} {i : Nat} (h : i < G.length) : G.getD i [] = G[i] := by rw [List.getD_eq_getElem?_getD, List.getElem?_eq_getElem h]; rfl
theorem preG_end {G : List (List ByteArray)} {i : Nat} (h : i < G.length) : preG G i G[i].length = flatG (G.take (i + 1)) := by
  unfold preG
  rw [getD_at h, List.take_length, flatG_take h]
theorem preG_split {G : List (List ByteArray)} {i : Nat} (h : i < G.length) (k : Nat) : ∃ R, flatG G = preG G i k ++ R := by
  refine ⟨(G[i].drop k).map (fun s => Rd.srt s.data.toList) ++ flatG (G.drop (i + 1)), ?_⟩
  have e : flatG G = flatG (G.take (i + 1)) ++ flatG (G.drop (i + 1)) := by
    unfold flatG
    rw [← List.map_append, ← List.flatten_append, List.take_append_drop]
  rw [e, flatG_take h]
  unfold preG
  rw [getD_at h, List.append_assoc, List.append_assoc, ← List.append_assoc (List.map _ (List.take k G[i])), ← List.map_append, List.take_append_drop]
theorem preG_succ {G : List (List ByteArray)} {i k : Nat} (h : i < G.length) (hk : k < G[i].length) : Rd.size (preG G i (k + 1)) = Rd.size (preG G i k) * (Rd.srt G[i][k].data.toList).length := by
  unfold preG
  rw [getD_at h, List.take_succ_eq_append_getElem hk, List.map_append, ← List.append_assoc, Rd.size_append]
  simp [Rd.size]
set_option maxRecDepth 100000 in
set_option maxHeartbeats 4000000 in
theorem rcount (G : List (List ByteArray)) (A : Option Addr) (c : Nat) (w : World) (hG : GridAt w A G) (hn : G.length ≤ 1099511627776) (hr : ∀ r ∈ G, r.length ≤ 1099511627776) (hs : ∀ r ∈ G, ∀ s ∈ r, s.size ≤ 140737488351232) :
    Calls Tryz.prog 24 #[.slice A G.length c] w fun e w' => e = .returned (.tuple #[.int .i64 (cntN G), .int .i64 (cntE G)]) ∧ Below w.heap.size w w' := by
  have HC := Lib.hid (rcomplete G A c w hG hn hr)
  have HG := Lib.hid hG; have HRL := Lib.hid hr; have HS := Lib.hid hs
  clear hG hr hs
  cases hok : okG G with
  | false =>
    have HE := Lib.hid (show cntE G = 1 from if_pos hok)
    rw [hok] at HC
    clear hok
    go_enter Tryz.func24, Tryz.ntmps24
    go_wp2_with fail
    refine HC.out.mono ?_; rintro e w1 ⟨rfl, hb1⟩
    go_wp2_with fail
    go_ret2
    refine ⟨?_, hb1⟩
    have hN0 : cntN G = 0 := by unfold cntN; rw [if_neg (by rw [HE.out]; decide)]
    rw [hN0, HE.out]; rfl
  | true =>
    have HF := Lib.hid (okG_full hok)
    have hE : cntE G = if 4096 < Rd.size (flatG G) then 24 else 0 := by unfold cntE; rw [if_neg (by rw [hok]; decide)]
    have HE := Lib.hid hE
    rw [hok] at HC
    clear hok hE
    go_enter Tryz.func24, Tryz.ntmps24
    go_wp2_with fail
    refine HC.out.mono ?_; rintro e w1 ⟨rfl, hb1⟩
    have HB := Lib.hid hb1; have HG1 := Lib.hid (HG.out.later hb1)
    clear hb1
    go_wp2_with fail
    go_loop [4, 5] (fun v4 v5 => ∃ i : Nat, i ≤ G.length ∧ v5 = .int .i64 i ∧ v4 = .int .i64 (Rd.size (flatG (G.take i)) : Nat) ∧ Rd.size (flatG (G.take i)) ≤ 4096) (fun _ v5 => G.length - (intOf v5).toNat)
    case atStart => exact ⟨0, Nat.zero_le _, rfl, rfl, by rw [List.take_zero]; decide⟩
    case round =>
      obtain ⟨i, hi, rfl, rfl, hq⟩ := hrel
      rw [← preG_zero] at hq ⊢
      obtain ⟨q0, hq0⟩ : ∃ q, Rd.size (preG G i 0) = q := ⟨_, rfl⟩
      rw [hq0] at hq ⊢
      have HQ0 := Lib.hid hq0; have HQL := Lib.hid hq
      clear hq0
      by_cases hlt : i < G.length
      · obtain ⟨b, off, rfl, hcell⟩ : ∃ b off, A = some ⟨b, off, none⟩ ∧ ∀ i (h : i < G.length), ∃ Ai ci, w1.cell? ⟨b, off + i, none⟩ = some (.slice Ai G[i].length ci) ∧ TextsAt w1 Ai G[i] := by
          rcases HG1.out with h | h
          · omega
          · exact h
        obtain ⟨Ai, ci, e1, ht⟩ := hcell i hlt
        have hrl := HRL.out _ (List.getElem_mem hlt)
        obtain ⟨n, hn2⟩ : ∃ n, (G[i]'hlt).length = n := ⟨_, rfl⟩
        rw [hn2] at e1 hrl
        have HLT := Lib.hid hlt; have HN := Lib.hid hn2; have HT := Lib.hid ht
        clear hcell ht hn2
        go_wp2_with fail
        go_loop [4, 6] (fun v4 v6 => ∃ k : Nat, k ≤ n ∧ v6 = .int .i64 k ∧ v4 = .int .i64 (Rd.size (preG G i k) : Nat) ∧ Rd.size (preG G i k) ≤ 4096) (fun _ v6 => n - (intOf v6).toNat)
        case atStart => exact ⟨0, Nat.zero_le _, rfl, by rw [HQ0.out], by rw [HQ0.out]; exact HQL.out⟩
        case round =>
          obtain ⟨k, hk, rfl, rfl, hq2⟩ := hrel
          obtain ⟨q, hqq⟩ : ∃ q, Rd.size (preG G i k) = q := ⟨_, rfl⟩
          rw [hqq] at hq2 ⊢
          have HQ := Lib.hid hqq
          clear hqq
          by_cases hkt : k < n
          · have hk2 : k < (G[i]'HLT.out).length := by rw [HN.out]; exact hkt
            obtain ⟨s, hs0⟩ : ∃ s, (G[i]'HLT.out)[k]'hk2 = s := ⟨_, rfl⟩
            obtain ⟨b2, off2, rfl, e2⟩ := HT.out.cell k hk2
            have hss := HS.out _ (List.getElem_mem HLT.out) _ (List.getElem_mem hk2)
            have hsu := preG_succ HLT.out hk2
            rw [hs0] at e2 hss hsu
            have HRS := Lib.hid (rsorted s w1 hss)
            obtain ⟨z, hz⟩ : ∃ z : ByteArray, (⟨(Rd.srt s.data.toList).toArray⟩ : ByteArray) = z := ⟨_, rfl⟩
            rw [hz] at HRS
            have hzs : z.size = (Rd.srt s.data.toList).length := by rw [← hz, str_size]
            rw [← hzs, HQ.out] at hsu
            have hz256 : z.size ≤ 256 := by rw [hzs]; exact Rd.srt_len _
            obtain ⟨m, hm⟩ : ∃ m, z.size = m := ⟨_, rfl⟩
            have HSU := Lib.hid hsu; have HKT := Lib.hid hkt
            have hmul : (q : Int) * (z.size : Int) ≤ 9223372036854775807 := by
              have h1 : q * z.size ≤ 4096 * 256 := Nat.mul_le_mul hq2 hz256
              have h2 : (q : Int) * (z.size : Int) = ((q * z.size : Nat) : Int) := by push_cast; rfl
              omega
            have hmul0 : 0 ≤ (q : Int) * (z.size : Int) := Int.mul_nonneg (by omega) (by omega)
            clear hs0 hsu hz hzs hm hss hk2
            by_cases hbig : 4096 < q * z.size
            · have hb2 : 4096 < (q : Int) * (z.size : Int) := by have h2 : (q : Int) * (z.size : Int) = ((q * z.size : Nat) : Int) := by push_cast; rfl
                                                                 omega
              have HE2 := Lib.hid (show cntE G = 24 from by
                rw [HE.out, if_pos]
                obtain ⟨R, hR⟩ := preG_split HLT.out (k + 1)
                have := size_pre hR HF.out
                rw [HSU.out] at this
                omega)
              clear hbig
              go_wp2_with fail
              refine HRS.out.mono ?_; rintro e w' ⟨rfl, rfl⟩
              go_wp2_with fail
              go_ret2
              refine ⟨?_, HB.out⟩
              have hN0 : cntN G = 0 := by unfold cntN; rw [if_neg (by rw [HE2.out]; decide)]
              rw [hN0, HE2.out]; rfl
            · have hb2 : ¬ (4096 < (q : Int) * (z.size : Int)) := by have h2 : (q : Int) * (z.size : Int) = ((q * z.size : Nat) : Int) := by push_cast; rfl
                                                                     omega
              have HBG := Lib.hid hbig
              clear hbig
              go_wp2_with fail
              refine HRS.out.mono ?_; rintro e w' ⟨rfl, rfl⟩
              go_wp2_with fail
              go_round
              case rel => exact ⟨k + 1, HKT.out, by go_num, by rw [HSU.out]; push_cast; rfl, by rw [HSU.out]; have := HBG.out; omega⟩
              case measure => have := HKT.out; simp [intOf]; omega
          · obtain rfl : k = n := by omega
            have HQE := Lib.hid (show Rd.size (flatG (G.take (i + 1))) = q by rw [← preG_end HLT.out, HN.out, HQ.out])
            have HQ2 := Lib.hid hq2
            go_wp2_with fail
            go_round
            case rel => exact ⟨i + 1, HLT.out, by go_num, by rw [HQE.out], by rw [HQE.out]; exact HQ2.out⟩
            case measure => have := HLT.out; simp [intOf]; omega
      · obtain rfl : i = G.length := by omega
        have HQE := Lib.hid (show Rd.size (flatG G) = q0 by rw [← HQ0.out, preG_zero, List.take_length])
        go_wp2_with fail
        go_ret2
        refine ⟨?_, HB.out⟩
        have hE0 : cntE G = 0 := by rw [HE.out, if_neg (by rw [HQE.out]; have := HQL.out; omega)]
        have hN0 : cntN G = (q0 : Int) := by unfold cntN; rw [if_pos hE0, HQE.out]
        rw [hN0, hE0]; rfl
end Go.Proofs.YtafbhadfeemppaaGreatDoor

namespace Go.Proofs.YtafbhadfeemppaaGreatDoor
open Go.RowKit

theorem back_len : ∀ (L : List (List UInt8)) (n : Nat), (Rd.back L n).1.length = L.length
  | [], _ => rfl
  | _ :: r, n => by simp only [Rd.back, List.length_cons, back_len r n]
theorem back_le : ∀ (L : List (List UInt8)) (n : Nat), (Rd.back L n).2 ≤ n
  | [], _ => Nat.le_refl _
  | _ :: r, n => by simp only [Rd.back]; exact Nat.le_trans (Nat.div_le_self _ _) (back_le r n)
theorem back_drop : ∀ (L : List (List UInt8)) (n p : Nat), (Rd.back (L.drop p) n).1 = (Rd.back L n).1.drop p
  | L, n, 0 => by simp
  | [], n, p + 1 => by simp [Rd.back]
  | _ :: r, n, p + 1 => by simp only [Rd.back, List.drop_succ_cons]; exact back_drop r n p
/-- What is left of the number at a place. -/
def bkN (L : List (List UInt8)) (n p : Nat) : Nat := (Rd.back (L.drop p) n).2
def bkT (L : List (List UInt8)) (n : Nat) : List UInt8 := (Rd.back L n).1
theorem bk_step {L : List (List UInt8)} {n p : Nat} (h : p < L.length) : bkN L n p = bkN L n (p + 1) / L[p].length ∧ (bkT L n)[p]? = some (L[p].getD (bkN L n (p + 1) % L[p].length) 0) := by
  have e : L.drop p = L[p] :: L.drop (p + 1) := List.drop_eq_getElem_cons h
  constructor
  · unfold bkN; rw [e]; rfl
  · have h1 := back_drop L n p
    rw [e] at h1
    have h2 : (bkT L n)[p]? = ((bkT L n).drop p)[0]? := by rw [List.getElem?_drop, Nat.add_zero]
    rw [h2]
    unfold bkT
    rw [← h1]
    rfl
theorem flat_at {G : List (List ByteArray)} {m : Nat} (h : ∀ r ∈ G, r.length = m) {i k : Nat} (hi : i < G.length) (hk : k < G[i].length) : (flatG G)[i * m + k]? = some (Rd.srt G[i][k].data.toList) := by
  unfold flatG
  rw [List.getElem?_map]
  have key : ∀ (G : List (List ByteArray)) (_ : ∀ r ∈ G, r.length = m) (i : Nat) (hi : i < G.length) (hk : k < G[i].length), G.flatten[i * m + k]? = some G[i][k] := by
    intro G
    induction G with
    | nil => intro _ i hi; simp at hi
    | cons r g ih =>
      intro h i hi hk
      have hr := h r (List.mem_cons_self ..)
      rw [List.flatten_cons]
      cases i with
      | zero =>
        have hk' : k < r.length := hk
        rw [Nat.zero_mul, Nat.zero_add, List.getElem?_append_left hk', List.getElem?_eq_getElem hk']; rfl
      | succ i =>
        rw [Nat.succ_mul, List.getElem?_append_right (by omega)]
        have e : i * m + m + k - r.length = i * m + k := by omega
        rw [e]
        exact ih (fun x hx => h x (List.mem_cons_of_mem _ hx)) i (by simpa using hi) hk
  rw [key G h i hi hk]; rfl
theorem made_strs (w : World) (n : Nat) (hn : n ≤ 1000000) : ∃ w', Sem.run Tryz.prog (Instr.makeSlice 29 (.int .i64 (n : Int)) (.int .i64 (n : Int))) w = .ok (.slice (some ⟨w.heap.size, 0, none⟩) n n) w' ∧ Below w.heap.size w w' ∧ w'.ownsRow w.heap.size 9 1 (.slice (some ⟨w.heap.size, 0, none⟩) n n) n (List.replicate n (.string ByteArray.empty)) := by
  obtain ⟨i0, hi, hz0, hz1, hz2⟩ := info_parts Tryz.infoStr
  obtain ⟨w', hr, ho, hg⟩ := run_make_full (P := Tryz.prog) w w.heap.size 29 9 i0 (.string ByteArray.empty) 1 Tryz.underlying29 hi hz0 hz1 .i64 .i64 n (by rw [hz2]; omega) (by unfold maxLen; omega) (Nat.le_refl _)
  refine ⟨w', hr, (Below.refl _ _).grown hg (Nat.le_refl _) (fun j e => by cases e), ?_⟩
  rw [show (Value.string ByteArray.empty).cells = #[Value.string ByteArray.empty] from rfl, Nat.mul_one, toList_madeCells_one] at ho
  exact ho
theorem set_last {α : Type} (z : α) (K : List α) {i : Nat} (h : i < K.length) : (List.replicate (i + 1) z ++ K.drop (i + 1)).set i K[i] = List.replicate i z ++ K.drop i := by
  rw [List.drop_eq_getElem_cons h, List.replicate_succ', List.append_assoc, List.set_append_right _ _ (by simp)]
  simp
set_option maxRecDepth 100000 in
set_option maxHeartbeats 8000000 in
theorem rchoice (G : List (List ByteArray)) (A : Option Addr) (c : Nat) (n : Nat) (w : World) (hG : GridAt w A G) (hok : okG G = true) (hs : ∀ r ∈ G, ∀ s ∈ r, s.size ≤ 140737488351232) (hn : n ≤ 1000000000) :
    Calls Tryz.prog 42 #[.slice A G.length c, .int .i64 n] w fun e w' => ∃ A' c', e = .returned (.slice A' G.length c') ∧
      w'.ownsRow w.heap.size 9 1 (.slice A' G.length c') G.length ((lineS G.length (G.headD []).length (bkT (flatG G) n)).map .string) ∧ Below w.heap.size w w' := by
  have HFL := Lib.hid (okG_full hok)
  obtain ⟨hsh, hall, hfl⟩ := okG_shape hok
  obtain ⟨H, hH⟩ : ∃ H, G.length = H := ⟨_, rfl⟩
  obtain ⟨Wd, hW⟩ : ∃ Wd, (G.headD []).length = Wd := ⟨_, rfl⟩
  obtain ⟨L, hL⟩ : ∃ L, flatG G = L := ⟨_, rfl⟩
  rw [hH, hW] at hsh hfl
  rw [hW] at hall
  rw [hL] at hfl HFL
  rw [hH, hW, hL]
  have HSZ := Lib.hid (show H ≤ 3 ∧ Wd ≤ 44 ∧ 0 < Wd from by omega)
  have HH := Lib.hid hH; have HALL := Lib.hid hall; have HLL := Lib.hid hfl; have HL := Lib.hid hL
  have HG := Lib.hid hG; have HS := Lib.hid hs
  have hH3 : H ≤ 3 := by omega
  have hWd : Wd ≤ 44 := by omega
  clear hG hs hok hsh hall hfl hH hW hL
  obtain ⟨t, ht⟩ : ∃ t, bkT L n = t := ⟨_, rfl⟩
  have HTL := Lib.hid (show t.length = H * Wd by rw [← ht, ← HLL.out]; exact back_len L n)
  rw [ht]
  have HT := Lib.hid ht
  clear ht
  obtain ⟨K, hK⟩ : ∃ K, lineS H Wd t = K := ⟨_, rfl⟩
  have HKL := Lib.hid (show K.length = H by rw [← hK]; exact lineS_len _ _ _)
  have HKG := Lib.hid (show ∀ i (h : i < K.length), K[i] = ⟨((t.drop (i * Wd)).take Wd).toArray⟩ from fun i h => by
    have h1 : i < H := by rw [← HKL.out]; exact h
    have h2 := lineS_get (t := t) (Wd := Wd) h1
    rw [hK, List.getElem?_eq_getElem h] at h2
    injection h2)
  rw [hK]
  clear hK
  obtain ⟨w1, hmk, hb1, ho1⟩ := made_strs w H (by omega)
  have HB1 := Lib.hid hb1; have HO1 := Lib.hid ho1
  have HBN := Lib.hid (show ∀ p, bkN L n p ≤ 1000000000 from fun p => Nat.le_trans (back_le _ _) hn)
  have HNE := Lib.hid (show bkN L n (H * Wd) = n by unfold bkN; rw [← HLL.out, List.drop_length]; rfl)
  clear hb1 ho1
  go_enter Tryz.func42, Tryz.ntmps42
  go_wp2_with fail
  clear hmk
  go_loopw [1, 6] (fun v1 v6 wr => ∃ i : Nat, i ≤ H ∧ v6 = .int .i64 ((i : Int) - 1) ∧ v1 = .int .i64 (bkN L n (i * Wd) : Nat) ∧ wr.ownsRow w.heap.size 9 1 (.slice (some ⟨w.heap.size, 0, none⟩) H H) H ((List.replicate i ByteArray.empty ++ K.drop i).map .string) ∧ Below w.heap.size w wr)
    (fun _ v6 _ => (intOf v6 + 1).toNat)
  case atStart =>
    refine ⟨H, Nat.le_refl _, rfl, by rw [HNE.out], ?_, HB1.out⟩
    have e : (List.replicate H ByteArray.empty ++ K.drop H).map Value.string = List.replicate H (.string ByteArray.empty) := by
      rw [List.drop_of_length_le (by rw [HKL.out]; exact Nat.le_refl _), List.append_nil, List.map_replicate]
    rw [e]; exact HO1.out
  case round =>
    obtain ⟨i, hi, rfl, rfl, hown, hb⟩ := hrel
    have HO := Lib.hid hown; have HB := Lib.hid hb
    clear hown hb
    cases i with
    | zero =>
      have HOE := Lib.hid (show wr.ownsRow w.heap.size 9 1 (.slice (some ⟨w.heap.size, 0, none⟩) H H) H (K.map .string) by
        have h := HO.out
        simpa using h)
      go_wp2_with fail
      go_ret
      exact ⟨_, _, rfl, HOE.out, HB.out⟩
    | succ i =>
      obtain ⟨b, off, rfl, hcell⟩ : ∃ b off, A = some ⟨b, off, none⟩ ∧ ∀ i (h : i < G.length), ∃ Ai ci, w.cell? ⟨b, off + i, none⟩ = some (.slice Ai G[i].length ci) ∧ TextsAt w Ai G[i] := by
        rcases HG.out with h | h
        · have := HH.out; omega
        · exact h
      have hiG : i < G.length := by rw [HH.out]; omega
      obtain ⟨Ai, ci, e0, htx⟩ := hcell i hiG
      have e1 := cell_later HB.out e0
      have hrw := HALL.out _ (List.getElem_mem hiG)
      rw [hrw] at e1
      have HTX := Lib.hid (htx.later HB.out); have HIG := Lib.hid hiG; have HRW := Lib.hid hrw
      clear hcell e0 htx hrw
      obtain ⟨wo, hwo⟩ : ∃ wo : World, wo = wr := ⟨_, rfl⟩
      subst hwo
      obtain ⟨w2, hmk, hb2, hby, hlt2⟩ := made_text wo Wd (by omega)
      have e2 := cell_later hb2 e1
      have HB2 := Lib.hid hb2; have HBY := Lib.hid hby
      have hz2 : wo.heap.size < w2.heap.size := hlt2 HSZ.out.2.2
      have HZ2 := Lib.hid hz2
      obtain ⟨T, hT⟩ : ∃ T, wo.heap.size = T := ⟨_, rfl⟩
      rw [hT] at HBY hmk
      have HTT := Lib.hid hT
      have e9 : ((i : Int) + 1 - 1) = (i : Int) := by omega
      have hci : ((i + 1 : Nat) : Int) - 1 = (i : Int) := by omega
      rw [hci]
      clear hb2 hby hlt2 hz2 hT e9 hci
      go_wp2_with fail
      clear hmk e2
      go_loopw [1, 8] (fun v1 v8 wr => ∃ k : Nat, k ≤ Wd ∧ v8 = .int .i64 ((k : Int) - 1) ∧ v1 = .int .i64 (bkN L n (i * Wd + k) : Nat) ∧ BytesAt wr T (List.replicate k 0 ++ ((t.drop (i * Wd)).take Wd).drop k) ∧ Below wo.heap.size wo wr ∧ wo.heap.size < wr.heap.size)
        (fun _ v8 _ => (intOf v8 + 1).toNat)
      case atStart =>
        refine ⟨Wd, Nat.le_refl _, rfl, by rw [← Nat.succ_mul], ?_, HB2.out, HZ2.out⟩
        rw [List.drop_of_length_le (by rw [List.length_take]; omega), List.append_nil]
        exact HBY.out
      case round =>
        obtain ⟨k, hk, rfl, rfl, hby, hbb, hz⟩ := hrel
        have HBY2 := Lib.hid hby; have HBB := Lib.hid hbb; have HZ := Lib.hid hz
        have e3 := cell_later hbb e1
        clear hby hbb hz
        have hlw : ((t.drop (i * Wd)).take Wd).length = Wd := by
          have h1 : i * Wd + Wd ≤ H * Wd := by rw [← Nat.succ_mul]; exact Nat.mul_le_mul_right Wd hi
          rw [List.length_take, List.length_drop, HTL.out]; omega
        cases k with
        | zero =>
          have hby := HBY2.out
          simp only [List.replicate_zero, List.nil_append, List.drop_zero] at hby
          have hcv := conv_mid (q := 0) (n := Wd) hby (by omega) Wd
          simp only [List.drop_zero, List.take_take, Nat.min_self] at hcv
          have hiK : i < K.length := by rw [HKL.out]; exact hi
          have hki := HKG.out i hiK
          obtain ⟨S, hS⟩ : ∃ S : ByteArray, (⟨((t.drop (i * Wd)).take Wd).toArray⟩ : ByteArray) = S := ⟨_, rfl⟩
          rw [hS] at hcv hki
          have ho3 := ownsRow_later HO.out HBB.out
          have e5 := ho3.cellAt i (by omega)
          have e6 := ho3.frozenAt i
          have e5' : ∃ q, wr.cell? ⟨w.heap.size, i, none⟩ = some (.string q) := by
            rw [e5, List.getElem?_map, List.getElem?_append_left (by simp)]
            simp
          obtain ⟨q5, e7⟩ := e5'
          have hst := ho3.stored i (.string S)
          have HST := Lib.hid (show (wr.setCell ⟨w.heap.size, i, none⟩ (.string S)).ownsRow w.heap.size 9 1 (.slice (some ⟨w.heap.size, 0, none⟩) H H) H ((List.replicate i ByteArray.empty ++ K.drop i).map .string) by
            have h1 := hst.1
            rw [← List.map_set, ← hki, set_last _ _ hiK, hki] at h1
            exact h1)
          have HBS := Lib.hid (set_below12 (ga := w.heap.size) (k := i) (HB.out.trans (HBB.out.mono HB.out.size)) (Nat.le_refl _) (.string S))
          clear hby hiK hki hS ho3 e5 hst hlw e3
          go_wp2_with fail
          go_roundw
          case rel => exact ⟨i, by omega, by go_num, by rw [Nat.add_zero], HST.out, HBS.out⟩
          case measure => simp [intOf]
        | succ k =>
          have hkR : k < (G[i]'HIG.out).length := by rw [HRW.out]; exact hk
          obtain ⟨s, hs0⟩ : ∃ s, (G[i]'HIG.out)[k]'hkR = s := ⟨_, rfl⟩
          obtain ⟨b2, off2, rfl, e4⟩ := (HTX.out.later HBB.out).cell k hkR
          have hss := HS.out _ (List.getElem_mem HIG.out) _ (List.getElem_mem hkR)
          have hfa := flat_at HALL.out HIG.out hkR
          rw [hs0] at e4 hss hfa
          rw [HL.out] at hfa
          have hp : i * Wd + k < L.length := by
            have h1 : i * Wd + Wd ≤ H * Wd := by rw [← Nat.succ_mul]; exact Nat.mul_le_mul_right Wd hi
            rw [HLL.out]; omega
          rw [List.getElem?_eq_getElem hp] at hfa
          injection hfa with hfa
          obtain ⟨st1, st2⟩ := bk_step (n := n) hp
          rw [hfa] at st1 st2
          have hne : Rd.srt s.data.toList ≠ [] := by rw [← hfa]; exact HFL.out _ (List.getElem_mem hp)
          have hsne : s.size ≠ 0 := by
            intro e
            apply hne
            have : s.data.toList = [] := List.eq_nil_of_length_eq_zero (by rw [Opt.size_len]; exact e)
            rw [this]; rfl
          have HRS := Lib.hid (fun W => rsorted s W hss)
          obtain ⟨z, hz⟩ : ∃ z : ByteArray, (⟨(Rd.srt s.data.toList).toArray⟩ : ByteArray) = z := ⟨_, rfl⟩
          have hzs : z.size = (Rd.srt s.data.toList).length := by rw [← hz, str_size]
          have hz0 : 0 < z.size := by rw [hzs]; exact List.length_pos_iff.2 hne
          have hz256 : z.size ≤ 256 := by rw [hzs]; exact Rd.srt_len _
          have HSZ1 := Lib.hid (show s.size ≤ 1 → s = z from fun h1 => by
            have e : s.data.toList.length = 1 := by rw [Opt.size_len]; omega
            obtain ⟨c0, hc0⟩ := List.length_eq_one_iff.1 e
            rw [← hz, hc0, Rd.srt_one]
            apply str_eq
            rw [hc0])
          rw [hz] at HRS
          obtain ⟨mp, hmp⟩ : ∃ mp, bkN L n (i * Wd + (k + 1)) = mp := ⟨_, rfl⟩
          have hmpL : mp ≤ 1000000000 := by rw [← hmp]; exact HBN.out _
          have hmp' : bkN L n (i * Wd + k + 1) = mp := hmp
          rw [hmp', ← hzs] at st1 st2
          rw [hmp]
          obtain ⟨d, hd⟩ : ∃ d, mp / z.size = d := ⟨_, rfl⟩
          obtain ⟨r, hr⟩ : ∃ r, mp % z.size = r := ⟨_, rfl⟩
          have hrl : r < z.size := by rw [← hr]; exact Nat.mod_lt _ hz0
          rw [hd] at st1
          rw [hr] at st2
          have hzr : (Rd.srt s.data.toList).getD r 0 = z[r] := by
            have h1 : r < (Rd.srt s.data.toList).length := by rw [← hzs]; exact hrl
            rw [List.getD_eq_getElem?_getD, List.getElem?_eq_getElem h1]
            have : ∀ (l : List UInt8) (z : ByteArray) (e : (⟨l.toArray⟩ : ByteArray) = z) (h : r < l.length) (h' : r < z.size), l[r] = z[r] := fun l z e h h' => by subst e; rfl
            exact this _ _ hz h1 hrl
          rw [hzr] at st2
          have q1 : (mp : Int) % (z.size : Int) = (r : Int) := by rw [← hr]; push_cast; rfl
          have q2 : (mp : Int) / (z.size : Int) = (d : Int) := by rw [← hd]; push_cast; rfl
          have hdL : d ≤ 1000000000 := by rw [← hd]; exact Nat.le_trans (Nat.div_le_self _ _) hmpL
          obtain ⟨u, hu⟩ : ∃ u : UInt8, z[r] = u := ⟨_, rfl⟩
          rw [hu] at st2
          have hbl : k < (List.replicate (k + 1) (0 : UInt8) ++ ((t.drop (i * Wd)).take Wd).drop (k + 1)).length := by simp; omega
          obtain ⟨c5, f5⟩ := HBY2.out k hbl
          have c5' : ∃ q, wr.cell? ⟨T, k, none⟩ = some (.int .u8 q) := ⟨_, c5⟩
          obtain ⟨q5, c6⟩ := c5'
          have hu0 := u8_le u
          have hbs := HBY2.out.set_ k (u.toNat : Int) hu0.1 hu0.2 hbl
          have HBS := Lib.hid (show BytesAt (wr.setCell ⟨T, k, none⟩ (.int .u8 (u.toNat : Int))) T (List.replicate k 0 ++ ((t.drop (i * Wd)).take Wd).drop k) by
            have hb8 : b8 (u.toNat : Int) = u := by unfold b8; simp
            have hkl : k < ((t.drop (i * Wd)).take Wd).length := by rw [hlw]; exact hk
            have hku : ((t.drop (i * Wd)).take Wd)[k] = u := by
              have h1 : ((t.drop (i * Wd)).take Wd)[k]? = some u := by
                rw [List.getElem?_take, if_pos (show k < Wd from hk), List.getElem?_drop, ← HT.out]; exact st2
              rw [List.getElem?_eq_getElem hkl] at h1
              injection h1
            rw [hb8, ← hku, set_last _ _ hkl, hku] at hbs
            exact hbs)
          have HBW := Lib.hid (set_below12 (ga := T) (k := k) HBB.out (by rw [HTT.out]; exact Nat.le_refl _) (.int .u8 (u.toNat : Int)))
          have HST1 := Lib.hid st1
          have hck : ((k + 1 : Nat) : Int) - 1 = (k : Int) := by omega
          rw [hck]
          have HHU := Lib.hid hu; have HRL := Lib.hid hrl
          have hzne : ¬ ((z.size : Int) = 0) := by omega
          have hsz : 0 < (s.size : Int) := by omega
          clear hs0 hfa hp st1 st2 hne hz hzs hmp hmp' hd hr hzr hbl c5 hbs hck hlw hkR hsne
          by_cases h1 : 1 < s.size
          · go_wp2_with fail
            refine (HRS.out _).mono ?_; rintro e w' ⟨rfl, rfl⟩
            go_wp2_with fail
            go_roundw
            case rel => exact ⟨k, by omega, by go_num, by rw [HST1.out], HBS.out, HBW.out, by simpa [World.setCell] using HZ.out⟩
            case measure => simp [intOf]
          · obtain rfl := HSZ1.out (by omega)
            go_wp2_with fail
            go_roundw
            case rel => exact ⟨k, by omega, by go_num, by rw [HST1.out], HBS.out, HBW.out, by simpa [World.setCell] using HZ.out⟩
            case measure => simp [intOf]
end Go.Proofs.YtafbhadfeemppaaGreatDoor

namespace Go.Proofs.YtafbhadfeemppaaGreatDoor
open Go.RowKit

theorem bkT_choice {L : List (List UInt8)} (h : ∀ b ∈ L, b ≠ []) {n : Nat} (hn : n < Rd.size L) : bkT L n = choice L n := by
  have h1 := (Rd.back_is L h n).1
  rw [Nat.mod_eq_of_lt hn] at h1
  unfold bkT choice
  rw [List.getD_eq_getElem?_getD, h1]; rfl
/-- What Readings has collected. -/
def RJ (w : World) (L : List (List UInt8)) (H Wd k : Nat) (v : Value) (vs : List Value) (W : World) : Prop :=
  W.ownsRow w.heap.size 29 1 v (KS L H Wd k).length vs ∧ vs.length = (KS L H Wd k).length ∧ (∀ i (h : i < vs.length) (h' : i < (KS L H Wd k).length), W.ownsRow w.heap.size 9 1 vs[i] H ((KS L H Wd k)[i].map Value.string)) ∧ Below w.heap.size w W
theorem RJ.later {w W W' : World} {L : List (List UInt8)} {H Wd k : Nat} {v : Value} {vs : List Value} (h : RJ w L H Wd k v vs W) (hb : Below W.heap.size W W') : RJ w L H Wd k v vs W' :=
  ⟨ownsRow_later h.1 hb, h.2.1, fun i a b => ownsRow_later (h.2.2.1 i a b) hb, h.2.2.2.trans (hb.mono h.2.2.2.size)⟩
theorem RJ.skip {w W : World} {L : List (List UInt8)} {H Wd k : Nat} {v : Value} {vs : List Value} (h : RJ w L H Wd k v vs W) (e : KS L H Wd (k + 1) = KS L H Wd k) : RJ w L H Wd (k + 1) v vs W := by
  unfold RJ at *
  rw [e]; exact h
theorem RJ.push {w W w4 : World} {L : List (List UInt8)} {H Wd k : Nat} {v v' u : Value} {vs : List Value} {R : List ByteArray} {tmp : Obj} (h : RJ w L H Wd k v vs W) (hu : W.ownsRow w.heap.size 9 1 u H (R.map Value.string)) (hks : KS L H Wd (k + 1) = KS L H Wd k ++ [R])
    (hown : w4.ownsRow w.heap.size 29 1 v' ((KS L H Wd k).length + 1) (vs ++ [u])) (hgrow : (W.alloc tmp).grownBy w4 v.ownBlock) : RJ w L H Wd (k + 1) v' (vs ++ [u]) w4 := by
  obtain ⟨h1, h2, h3, h4⟩ := h
  have ha := below_alloc1 W tmp
  have g1 := ownsRow_later h1 ha
  have hb : Below w.heap.size w w4 := (h4.trans (ha.mono h4.size)).grown hgrow (by have := h4.size; rw [size_alloc1]; omega) (fun j hj => (own_lt g1 hj).1)
  have kp : ∀ (x : Value) (n1 : Nat) (x1 : List Value), W.ownsRow w.heap.size 9 1 x n1 x1 → w4.ownsRow w.heap.size 9 1 x n1 x1 := fun x n1 x1 hx => (ownsRow_later hx ha).kept hgrow (own_ne_type (ownsRow_later hx ha) g1 (by decide))
  refine ⟨by rw [hks, List.length_append]; exact hown, by rw [hks, List.length_append, List.length_append, h2]; rfl, fun i a b => ?_, hb⟩
  refine kp _ _ _ ?_
  simp only [hks] at b ⊢
  by_cases hlt : i < vs.length
  · rw [List.getElem_append_left hlt, List.getElem_append_left (by rw [← h2]; exact hlt)]
    exact h3 i hlt (by rw [← h2]; exact hlt)
  · have e1 : i = vs.length := by simp at a; omega
    subst e1
    have e2 : (vs ++ [u])[vs.length]'a = u := by simp
    have e3 : (KS L H Wd k ++ [R])[vs.length]'b = R := by rw [List.getElem_append_right (by rw [h2]; exact Nat.le_refl _)]; simp
    rw [e2, e3]; exact hu
set_option maxRecDepth 100000 in
set_option maxHeartbeats 4000000 in
theorem rreadings (G : List (List ByteArray)) (A : Option Addr) (c : Nat) (w : World) (hG : GridAt w A G) (hn : G.length ≤ 1099511627776) (hr : ∀ r ∈ G, r.length ≤ 1099511627776) (hs : ∀ r ∈ G, ∀ s ∈ r, s.size ≤ 140737488351232) :
    Calls Tryz.prog 18 #[.slice A G.length c] w (RdPost G w) := by
  have HCN := Lib.hid (rcount G A c w hG hn hr hs)
  have HG := Lib.hid hG; have HS := Lib.hid hs
  clear hG hr hs
  obtain ⟨E, hE⟩ : ∃ E, cntE G = E := ⟨_, rfl⟩
  obtain ⟨CN, hCN⟩ : ∃ CN, cntN G = CN := ⟨_, rfl⟩
  rw [hE, hCN] at HCN
  have HE := Lib.hid hE; have HCNN := Lib.hid hCN
  clear hE hCN
  go_enter Tryz.func18, Tryz.ntmps18
  go_wp2_with fail
  refine HCN.out.mono ?_; rintro e w1 ⟨rfl, hb1⟩
  have HB1 := Lib.hid hb1
  clear hb1
  by_cases h0 : E = 0
  · subst h0
    have hok : okG G = true := by
      have h := HE.out
      unfold cntE at h
      by_cases ho : okG G = false
      · rw [if_pos ho] at h; cases h
      · simpa using ho
    obtain ⟨Wd, hWd⟩ : ∃ Wd, (G.headD []).length = Wd := ⟨_, rfl⟩
    have HWD := Lib.hid hWd
    obtain ⟨hsh, hall, hfl⟩ := okG_shape hok
    rw [hWd] at hsh hfl
    have HF := Lib.hid (okG_full hok)
    obtain ⟨L, hLL⟩ : ∃ L, flatG G = L := ⟨_, rfl⟩
    rw [hLL] at hfl HF
    have hNS : Rd.size L ≤ 4096 := by
      have h := HE.out
      unfold cntE at h
      rw [if_neg (by rw [hok]; decide), hLL] at h
      by_cases hb : 4096 < Rd.size L
      · rw [if_pos hb] at h; cases h
      · omega
    have hCN2 : CN = (Rd.size L : Int) := by
      rw [← HCNN.out]; unfold cntN; rw [if_pos HE.out, hLL]
    subst hCN2
    have HLG := Lib.hid hLL; have HOK := Lib.hid hok
    have HSH := Lib.hid (show Wd ≤ 44 ∧ 30 ≤ Wd ∧ G.length ≤ 3 from by omega)
    obtain ⟨Sz, hSz⟩ : ∃ Sz, Rd.size L = Sz := ⟨_, rfl⟩
    rw [hSz] at hNS ⊢
    have HSZ := Lib.hid hSz
    have HCH := Lib.hid (show ∀ W k, GridAt W A G → k < Sz → Calls Tryz.prog 42 #[.slice A G.length c, .int .i64 (k : Int)] W fun e w' => ∃ A' c', e = .returned (.slice A' G.length c') ∧
      w'.ownsRow W.heap.size 9 1 (.slice A' G.length c') G.length ((lineS G.length Wd (choice L k)).map .string) ∧ Below W.heap.size W w' from fun W k hW hk => by
      have h := rchoice G A c k W hW hok HS.out (by omega)
      rw [hWd, hLL, bkT_choice HF.out (by rw [hSz]; exact hk)] at h
      exact h)
    clear hok hWd hsh hall hfl hLL hSz
    go_wp2_with fail
    go_loopw [6, 7] (fun v6 v7 wr => ∃ (k : Nat) (vs : List Value), k ≤ Sz ∧ v7 = .int .i64 k ∧ RJ w L G.length Wd k v6 vs wr) (fun _ v7 _ => Sz - (intOf v7).toNat)
    case atStart => exact ⟨0, [], Nat.zero_le _, rfl, World.ownsRow_nil _ _ _ _, rfl, fun i h => absurd h (by simp), HB1.out⟩
    case round =>
      obtain ⟨k, vs, hk, rfl, hj⟩ := hrel
      have HJ := Lib.hid hj
      clear hj
      by_cases hlt : k < Sz
      · have HLT := Lib.hid hlt
        have HCK := Lib.hid (HCH.out wr k (by
          have hb := HJ.out.2.2.2
          have := HG.out
          rcases this with h | ⟨b, off, e, hc⟩
          · exact .inl h
          · refine .inr ⟨b, off, e, fun i hi => ?_⟩
            obtain ⟨Ai, ci, h1, h2⟩ := hc i hi
            exact ⟨Ai, ci, cell_later hb h1, h2.later hb⟩) hlt)
        go_wp2_with fail
        refine HCK.out.mono ?_; rintro e w2 ⟨A2, c2, rfl, ho2, hb2⟩
        obtain ⟨R, hR⟩ : ∃ R, lineS G.length Wd (choice L k) = R := ⟨_, rfl⟩
        rw [hR] at ho2
        have hRl : R.length = G.length := by rw [← hR]; exact lineS_len _ _ _
        have hRs : ∀ s ∈ R, s.size ≤ 140737488351232 := by intro s hs; rw [← hR] at hs; have := lineS_size _ _ _ s hs; have := HSH.out; omega
        have hTA : TextsAt w2 A2 R := by have := Src.of_own ho2; rw [← hRl] at this; exact this
        obtain ⟨V, hV⟩ : ∃ V, Zn.prsV (txts R) = V := ⟨_, rfl⟩
        obtain ⟨E, hEE⟩ : ∃ E, Zn.prsE (txts R) = E := ⟨_, rfl⟩
        have HP := Lib.hid (show Calls Tryz.prog 23 #[.slice A2 G.length c2] w2 fun e w' => e = .returned (.tuple #[.agg #[.int .i64 V.fmt, .string V.kind, .string V.state, .string V.sur, .string V.giv, .string V.num, .string V.nat, .string V.birth, .string V.sex, .string V.exp, .string V.opt, .string V.sec], .int .i64 E]) ∧ Below w2.heap.size w2 w' from by
          have h := rparse R A2 c2 w2 (by have := HSH.out; omega) hRs hTA
          rw [hV, hEE, hRl] at h
          exact h)
        have HJ2 := Lib.hid (HJ.out.later hb2)
        have HO2 := Lib.hid (show w2.ownsRow w.heap.size 9 1 (.slice A2 G.length c2) G.length (R.map .string) from row_base ho2 HJ.out.2.2.2.size)
        have hks := KS_succ L G.length Wd k
        rw [hR, hEE] at hks
        have hkl := KS_le L G.length Wd k
        obtain ⟨KN, hKN⟩ : ∃ KN, (KS L G.length Wd k).length = KN := ⟨_, rfl⟩
        rw [hKN] at hkl
        have HKN := Lib.hid hKN; have HKS := Lib.hid hks
        clear ho2 hb2 hR hRl hRs hTA hV hEE hks hKN
        go_wp2_with fail
        refine HP.out.mono ?_; rintro e w3 ⟨rfl, hb3⟩
        have hb4 := hb3.alloc (Nat.le_trans (Nat.le_refl _) hb3.size) (.cells #[.int .i64 V.fmt, .string V.kind, .string V.state, .string V.sur, .string V.giv, .string V.num, .string V.nat, .string V.birth, .string V.sex, .string V.exp, .string V.opt, .string V.sec] 42)
        go_upto_region 10 with fail
        generalize w3.alloc (.cells #[.int .i64 V.fmt, .string V.kind, .string V.state, .string V.sur, .string V.giv, .string V.num, .string V.nat, .string V.birth, .string V.sex, .string V.exp, .string V.opt, .string V.sec] 42) = w4 at hb4 ⊢
        have HJ4 := Lib.hid (HJ2.out.later hb4); have HO4 := Lib.hid (ownsRow_later HO2.out hb4)
        clear hb3 hb4
        by_cases hE0 : E = 0
        · subst hE0
          have HKS2 := Lib.hid (show KS L G.length Wd (k + 1) = KS L G.length Wd k ++ [R] by rw [HKS.out]; simp)
          obtain ⟨i0, hi0, hz0, hz1, hz2⟩ := info_parts Tryz.infoRow
          have HOWN := Lib.hid (show (w4.alloc (.cells #[.slice A2 G.length c2] 29)).ownsRow w.heap.size 29 1 u6 KN vs by have h := HJ4.out.1.alloc (.cells #[.slice A2 G.length c2] 29); rwa [HKN.out] at h)
          go_wp2_with (at_builtin; refine wpList_append_own_at _ rfl _ _ 31 rfl w.heap.size 29 i0 (.slice none 0 0) 1 24 Tryz.underlying31 hi0 hz0 hz1 hz2 rfl (by decide) _ _ _ rfl HOWN.out ⟨w4.heap.size, 0, none⟩ 1 1 [.slice A2 G.length c2] rfl rfl ?c1 ?c2 ?c3 ?c4 ?c5 ?_)
          case c2 => rfl
          case c3 => unfold maxLen; omega
          case c4 => omega
          case c5 => have := HJ4.out.2.2.2.size; simp; omega
          · intro v' w5 hown' hgrow _ _
            have HPC := Lib.hid (HJ4.out.push HO4.out HKS2.out (by rw [HKN.out]; exact hown') hgrow)
            clear hown' hgrow hi0 hz0 hz1 hz2
            go_wp2_with fail
            go_roundw
            case rel => exact ⟨k + 1, _, HLT.out, by go_num, HPC.out⟩
            case measure => have := HLT.out; simp [intOf]; omega
        · have HKS2 := Lib.hid (show KS L G.length Wd (k + 1) = KS L G.length Wd k by rw [HKS.out, if_neg hE0, List.append_nil])
          go_wp2_with fail
          go_roundw
          case rel => exact ⟨k + 1, vs, HLT.out, by go_num, HJ4.out.skip HKS2.out⟩
          case measure => have := HLT.out; simp [intOf]; omega
      · obtain rfl : k = Sz := by omega
        have hrk : rdK G = KS L G.length Wd k := by unfold rdK; rw [HLG.out, HWD.out, HSZ.out]
        obtain ⟨A6, c6, rfl, _, _⟩ := own_form HJ.out.1
        have HGR := Lib.hid (show GridAt wr A6 (rdK G) by
          rw [hrk]
          exact own_grid HJ.out.1 HJ.out.2.1 HJ.out.2.2.1 (fun R hR => KS_len hR))
        have HOG := Lib.hid (show OwnGrid wr w.heap.size A6 c6 (rdK G) G.length by
          rw [hrk]
          exact ⟨vs, HJ.out.1, HJ.out.2.1, HJ.out.2.2.1⟩)
        have HRK := Lib.hid hrk
        clear hrk
        go_wp2_with fail
        go_ret2
        exact ⟨fun h => absurd HE.out h, fun _ => ⟨A6, c6, by rw [HRK.out]; rfl, HGR.out, HOG.out⟩, HJ.out.2.2.2⟩
  · go_wp2_with fail
    go_ret2
    exact ⟨fun _ => by rw [HE.out]; rfl, fun h => absurd (HE.out.symm.trans h) h0, HB1.out⟩
end Go.Proofs.YtafbhadfeemppaaGreatDoor

namespace Go.Proofs.YtafbhadfeemppaaGreatDoor
open Go.RowKit

set_option maxRecDepth 100000 in
set_option maxHeartbeats 1000000 in
theorem ronly (G : List (List ByteArray)) (A : Option Addr) (c : Nat) (w : World) (hG : GridAt w A G) (hn : G.length ≤ 1099511627776) (hr : ∀ r ∈ G, r.length ≤ 1099511627776) (hs : ∀ r ∈ G, ∀ s ∈ r, s.size ≤ 140737488351232) :
    Calls Tryz.prog 20 #[.slice A G.length c] w (OnlyPost G w) := by
  have HR := Lib.hid (rreadings G A c w hG hn hr hs)
  clear hG hr hs
  go_enter Tryz.func20, Tryz.ntmps20
  go_wp2_with fail
  refine HR.out.mono ?_; rintro e w1 hp
  have HB := Lib.hid hp.2.2
  by_cases h0 : cntE G = 0
  · obtain ⟨A1, c1, rfl, hg, _⟩ := hp.2.1 h0
    have hle := rdK_le h0
    have HG := Lib.hid hg; have H0 := Lib.hid h0
    obtain ⟨K, hK⟩ : ∃ K, rdK G = K := ⟨_, rfl⟩
    rw [hK] at HG hle ⊢
    have HK := Lib.hid hK
    clear hp hg h0 hK
    by_cases h1 : K.length = 0
    · have d1 : ((K.length : Int) == 0) = true := by rw [h1]; rfl
      have HE := Lib.hid (show onlE G = 16 by unfold onlE; rw [if_neg (by rw [H0.out]; decide), if_pos (by rw [HK.out]; exact h1)])
      obtain ⟨kl, hkl⟩ : ∃ kl, K.length = kl := ⟨_, rfl⟩
      rw [hkl] at h1 hle d1 ⊢
      subst h1
      clear hkl d1
      go_wp2_with fail
      go_ret2
      exact onlyPost_no HE.out (by decide) HB.out
    · by_cases h2 : 1 < K.length
      · have HE := Lib.hid (show onlE G = 25 by unfold onlE; rw [if_neg (by rw [H0.out]; decide), if_neg (by rw [HK.out]; exact h1), if_pos (by rw [HK.out]; exact h2)])
        have g1 : ¬ ((K.length : Int) = 0) := by omega
        have g2 : 1 < (K.length : Int) := by omega
        clear h1 h2
        go_wp2_with fail
        go_ret2
        exact onlyPost_no HE.out (by decide) HB.out
      · have h3 : K.length = 1 := by omega
        have HE := Lib.hid (show onlE G = 0 by unfold onlE; rw [if_neg (by rw [H0.out]; decide), if_neg (by rw [HK.out]; exact h1), if_neg (by rw [HK.out]; exact h2)])
        obtain ⟨b, off, rfl, hc⟩ : ∃ b off, A1 = some ⟨b, off, none⟩ ∧ ∀ i (h : i < K.length), ∃ Ai ci, w1.cell? ⟨b, off + i, none⟩ = some (.slice Ai K[i].length ci) ∧ TextsAt w1 Ai K[i] := by
          rcases HG.out with h | h
          · omega
          · exact h
        obtain ⟨A0, c0, e0, ht⟩ := hc 0 (by omega)
        rw [Nat.add_zero] at e0
        have HV := Lib.hid (show onlV G = K[0]'(by omega) by
          unfold onlV
          rw [if_pos HE.out, HK.out]
          cases K with
          | nil => simp at h3
          | cons a r => rfl)
        obtain ⟨R, hR⟩ : ∃ R, K[0]'(by omega) = R := ⟨_, rfl⟩
        rw [hR] at e0 ht HV
        have HT := Lib.hid ht
        obtain ⟨kl, hkl⟩ : ∃ kl, K.length = kl := ⟨_, rfl⟩
        rw [hkl] at h3 ⊢
        subst h3
        clear h1 h2 hc ht hR hkl hle
        go_wp2_with fail
        go_ret2
        exact ⟨A0, c0, by rw [HV.out, HE.out]; rfl, by rw [HV.out]; exact HT.out, HB.out⟩
  · rw [hp.1 h0]
    have HE := Lib.hid (show onlE G = cntE G by unfold onlE; rw [if_pos h0])
    obtain ⟨E, hE⟩ : ∃ E, cntE G = E := ⟨_, rfl⟩
    rw [hE] at h0 HE ⊢
    have h1 : ((E : Int) != 0) = true := by rw [bne_iff_ne]; exact h0
    have H0 := Lib.hid h0
    clear hp h0 hE
    go_wp2_with fail
    go_ret2
    exact onlyPost_no HE.out H0.out HB.out
end Go.Proofs.YtafbhadfeemppaaGreatDoor
