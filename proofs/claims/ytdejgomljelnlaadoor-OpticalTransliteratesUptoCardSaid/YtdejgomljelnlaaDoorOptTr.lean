/- Chapter 10: the walk of the program's Transliterate. -/
import Derived.Test.YtdejgomljelnlaaDoorOptRep2
import Derived.Test.YtdejgomljelnlaaDoorSchWs
import Derived.Shelf.Strings.FieldsAny
namespace Go.Proofs.YtdejgomljelnlaaDoor
open Go.RowKit Go.Shelf

set_option maxHeartbeats 2000000 in
set_option maxRecDepth 100000 in
theorem owriteStringK (B b : Nat) (bs : List Value) (s : ByteArray) (w : World) (h : Lib.IsBuilder 58 5 B b bs w) (hlen : bs.length + s.size ≤ 140737488355328) (hBw : B ≤ w.heap.size) :
    Calls Tryd.prog 42 #[.pointer (some ⟨b, 0, none⟩), .string s] w fun e w' => e = .returned (.tuple #[.int .i64 s.size, .nilIface]) ∧ (Lib.BuilderAt 58 5 B b (.pointer (some ⟨b, 0, none⟩)) (bs ++ Lib.strCells s) w' ∧ Below B w w' ∧ Lib.OthersKept 5 (some b) w w') := by
  obtain ⟨i0, hi, hz0, hz1, hz2⟩ := info_parts byte_info
  go_enter Tryd.func42, Tryd.ntmps42
  go_wp2_with fail
  refine (ocopyCheck B b bs _ h).mono ?_; rintro e w1 ⟨rfl, h1, hb1⟩
  obtain ⟨hb1, hfr⟩ := hb1
  obtain ⟨hB, v, hbk, hown, hne⟩ := h1
  have c0 : w1.cell? ⟨b, 0, none⟩ = some (.pointer (some ⟨b, 0, none⟩)) := by rw [Lib.cell_of_heap hbk]; rfl
  have c1 : w1.cell? ⟨b, 1, none⟩ = some v := by rw [Lib.cell_of_heap hbk]; rfl
  go_wp2_with (at_builtin; refine Lib.wpList_append_own_string _ rfl _ _ 35 9 rfl B 5 i0 Tryd.underlying35 Tryd.underlying9 hi hz0 hz1 hz2 _ _ _ rfl hown s rfl ?c3 ?c4 ?c5 ?_)
  case c3 => unfold maxLen; omega
  case c4 => omega
  case c5 => have := hb1.size; omega
  intro v' w2 hown' hgrow _
  have hlt : b < w1.heap.size := by
    rcases Nat.lt_or_ge b w1.heap.size with h' | h'
    · exact h'
    · simp [Array.getElem?_eq_none h'] at hbk
  have hb2 : w2.heap[b]? = some (.cells #[.pointer (some ⟨b, 0, none⟩), v] 58 (0, 0)) := by
    rw [hgrow.block b hlt (fun e => hne e.symm)]
    exact hbk
  have d0 : w2.cell? ⟨b, 0, none⟩ = some (.pointer (some ⟨b, 0, none⟩)) := by rw [Lib.cell_of_heap hb2]; rfl
  have d1 : w2.cell? ⟨b, 1, none⟩ = some v := by rw [Lib.cell_of_heap hb2]; rfl
  have f1 : w2.frozen? ⟨b, 1, none⟩ = false := Lib.frozen_of_heap hb2 1
  obtain ⟨ao, n', cap, rfl⟩ : ∃ ao n' cap, v' = .slice ao n' cap := by
    rcases hown'.2 with ⟨hv, _⟩ | ⟨g, cap, cur, hv, _⟩
    · exact ⟨_, _, _, hv⟩
    · exact ⟨_, _, _, hv⟩
  go_wp2
  go_ret2
  refine ⟨rfl, ?_, ?_, fun k o hkk hk hty => ?_⟩
  · exact Lib.BuilderAt.put (T := 58) (e := 5) hB hb2 (bs' := bs ++ Lib.strCells s) (by simpa [Lib.strCells_length] using hown') (by decide)
  · exact (hb1.grown hgrow (by have := hb1.size; omega) (fun k hk => (hown.lt k hk).1)).setCell (p := ⟨b, 1, none⟩) hB _
  · have hkb : k ≠ b := fun e => hk (by rw [e])
    have hk1 := (hfr k hkb).trans hkk
    have hl : k < w1.heap.size := (Array.getElem?_eq_some_iff.1 hk1).1
    have hne2 : v.ownBlock ≠ some k := fun e => by
      rcases hown.2 with ⟨rfl, _⟩ | ⟨g, cap, cur, rfl, _, hg, _⟩
      · simp [Value.ownBlock] at e
      · simp only [Value.ownBlock, Option.some.injEq] at e
        subst e
        rw [hg] at hk1
        exact hty _ _ (Option.some.inj hk1).symm
    exact (Below.heap_setCell _ _ _ _ hkb).trans ((hgrow.block k hl (fun e => hne2 e.symm)).trans hk1)
/-- A builder stays one where its blocks stand. -/
theorem bld_keep {T e : TypeId} {B b : Nat} {bs : List Value} {w w' : World} (h : Lib.IsBuilder T e B b bs w) (hk : ∀ k, k < w.heap.size → w'.heap[k]? = w.heap[k]? ∨ ∃ s p, w.heap[k]? = some (.stringIter s p)) : Lib.IsBuilder T e B b bs w' := by
  have key : ∀ {p : Value}, Lib.BuilderAt T e B b p bs w → Lib.BuilderAt T e B b p bs w' := by
    rintro p ⟨hB, v, hb, hown, hne⟩
    have kk : ∀ {k : Nat} {cs : Array Value} {ty : TypeId} {fz : Nat × Nat}, w.heap[k]? = some (.cells cs ty fz) → w'.heap[k]? = some (.cells cs ty fz) := fun {k cs ty fz} hc => by
      have hl : k < w.heap.size := (Array.getElem?_eq_some_iff.1 hc).1
      rcases hk k hl with h' | ⟨s, q, h'⟩
      · exact h'.trans hc
      · rw [hc] at h'; cases h'
    refine ⟨hB, v, kk hb, ⟨hown.1, ?_⟩, hne⟩
    rcases hown.2 with hn | ⟨g, cap, cur, hv, hbg, hg, rest⟩
    · exact .inl hn
    · exact .inr ⟨g, cap, cur, hv, hbg, kk hg, rest⟩
  exact h.elim (fun x => .inl (key x)) (fun x => .inr (key x))
open Go.Lib
namespace Opt
/-- The tables of the library. -/
def Tabs (w : World) : Prop := Cases w ∧ Lib.Utf8Tabs 0 1 w ∧ Lib.TabIs Tryd.prog w "strings.asciiSpace" .u8 Lib.asciiSpaceTab ∧ Lib.WhiteTab 4 w
theorem tab_below {n : String} {g : Nat} {k : IntKind} {zs : List Int} {w w' : World} (hg : Tryd.prog.globalNamed n = some g) (h : Lib.TabIs Tryd.prog w n k zs) (hb : Below w.heap.size w w') : Lib.TabIs Tryd.prog w' n k zs := by
  unfold Lib.TabIs World.var? at h ⊢
  rw [hg] at h ⊢
  simp only [Option.bind_some] at h ⊢
  have hlt : g < w.heap.size := by
    rcases Nat.lt_or_ge g w.heap.size with h' | h'
    · exact h'
    · rw [Array.getElem?_eq_none h'] at h; cases h
  rw [hb.block g hlt]
  exact h
theorem Tabs.below {w w' : World} (h : Tabs w) (hb : Below w.heap.size w w') : Tabs w' :=
  ⟨h.1.below hb, Utf8Tabs_below h.2.1 hb, tab_below (g := 2) (by kernel_rfl) h.2.2.1 hb, WhiteTab_below h.2.2.2 hb⟩
theorem rep_len (r : Nat) (x : List UInt8) (h : rep r = some x) : x.length ≤ 4 := by
  unfold rep at h
  repeat' split at h
  all_goals first
    | (simp at h; rw [← h]; simp; done)
    | (simp at h; rw [h]; simp; done)
    | skip
  cases hf : capB.find? fun x => (two x.1).contains (toUpperU r).toNat with
  | none => rw [hf] at h; cases h
  | some y =>
    rw [hf] at h
    have := List.all_eq_true.1 capB_ok y (List.mem_of_find?_eq_some hf)
    simp only [Bool.and_eq_true, decide_eq_true_eq] at this
    simp at h
    rw [← h]; exact this.2
/-- How long the words are together. -/
def total (ws : List (List UInt8)) : Nat := (ws.map fun x => x.length + 1).sum
theorem total_go : ∀ (l cur : List UInt8), total (fieldsGo cur l) ≤ cur.length + l.length + 1
  | [], cur => by
    rw [fieldsGo_end0]
    split <;> simp [total]
  | b :: l, cur => by
    cases hb : isSp b with
    | false =>
      rw [fieldsGo_more cur b l hb]
      have := total_go l (cur ++ [b])
      simp at this ⊢
      omega
    | true =>
      by_cases hc : cur = []
      · rw [hc, fieldsGo_sp b l hb]
        have := total_go l []
        simp at this ⊢
        omega
      · rw [fieldsGo_end cur b l hb hc]
        have := total_go l []
        simp [total] at this ⊢
        omega
theorem total_len : ∀ ws : List (List UInt8), ws.length ≤ total ws ∧ (J ws).length ≤ total ws
  | [] => by simp [total, J_nil]
  | x :: r => by
    have hr := (total_len r).1
    have ht : (joinTail [32] r).length = total r := by
      unfold joinTail total
      clear hr
      induction r with
      | nil => rfl
      | cons y r ih => simp at ih ⊢; omega
    rw [J_cons, List.length_append, ht]
    unfold total at hr ⊢
    simp
    omega
theorem fields_len (l : List UInt8) : (fields l).length ≤ l.length + 1 ∧ (J (fields l)).length ≤ l.length + 1 := by
  have h1 := total_go l []
  have h2 := total_len (fieldsGo [] l)
  simp at h1
  unfold fields
  omega
/-- One rune on. -/
theorem outs_step (l : List UInt8) (hne : l ≠ []) : outs (rns l) = match rep (decodeL l).1 with | none => none | some x => (outs (rns (l.drop (decodeL l).2))).map (x ++ ·) := by
  rw [rns_step l hne]; rfl
end Opt
end Go.Proofs.YtdejgomljelnlaaDoor
