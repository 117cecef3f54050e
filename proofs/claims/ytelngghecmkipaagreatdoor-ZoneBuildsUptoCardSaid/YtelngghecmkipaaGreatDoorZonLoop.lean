/- Chapter 11: what the loop over the map leaves, and one round of it. -/
import Derived.Test.YtelngghecmkipaaGreatDoorZonMap
import Derived.Test.YtelngghecmkipaaGreatDoorZonLines
import Derived.Test.YtelngghecmkipaaGreatDoorZonSheet2
namespace Go.Proofs.YtelngghecmkipaaGreatDoor
open Go.RowKit

/-- The fields' texts, while the keys of 'left' are still to come. -/
noncomputable def midF (m : MP) (F : Nat) (left : Lit → Bool) (i : Nat) : List UInt8 :=
  match opsK.find? fun o => decide (mkey o = some (i : Int)) with
  | some o => if left (.int .i64 i) = true then List.replicate (Zn.wd F i) 60 else Zn.wide_ (mtxt m o).data.toList (Zn.wd F i)
  | none => List.replicate (Zn.wd F i) 60
theorem mid_wide (m : MP) (F : Nat) (left : Lit → Bool) : Zn.Wide F (midF m F left) := fun i => by
  unfold midF
  split
  · split
    · rw [List.length_replicate]
    · rw [Zn.wide_len]
  · rw [List.length_replicate]
theorem mkey_nat {o : Nat} {k : Int} (h : mkey o = some k) : ∃ i : Nat, k = (i : Int) ∧ i < 15 := by
  unfold mkey at h
  split at h <;> first | (cases h; exact ⟨_, rfl, by decide⟩) | cases h
theorem find_key {o i : Nat} (h : mkey o = some (i : Int)) : (opsK.find? fun o => decide (mkey o = some (i : Int))) = some o := by
  cases e : opsK.find? fun o => decide (mkey o = some (i : Int)) with
  | none =>
    have := List.find?_eq_none.1 e o (mkey_mem o _ h)
    exact absurd (decide_eq_true h) this
  | some o' =>
    have h' := of_decide_eq_true (List.find?_some (p := fun o => decide (mkey o = some (i : Int))) e)
    rw [mkey_inj o' o _ h' h]
theorem mid_step (m : MP) (F : Nat) (left : Lit → Bool) {o i : Nat} (h : mkey o = some (i : Int)) :
    midF m F (fun z => left z && !z.sameKey (.int .i64 i)) = Zn.upd (midF m F left) i (Zn.wide_ (mtxt m o).data.toList (Zn.wd F i)) := by
  funext j
  unfold Zn.upd
  by_cases e : j = i
  · subst e
    rw [if_pos rfl]
    unfold midF
    rw [find_key h]
    simp [Lit.sameKey]
  · rw [if_neg e]
    unfold midF
    have hne : (Lit.int .i64 (j : Int)).sameKey (.int .i64 (i : Int)) = false := by
      unfold Lit.sameKey
      rw [decide_eq_false_iff_not]
      rintro ⟨_, h2⟩; exact e (by omega)
    dsimp only
    simp only [hne, Bool.not_false, Bool.and_true]
theorem mid_start (m : MP) (F : Nat) (left : Lit → Bool) (h : ∀ k : Int, left (.int .i64 k) = opsK.any fun i => decide (mkey i = some k)) : midF m F left = fun i => List.replicate (Zn.wd F i) 60 := by
  funext i
  unfold midF
  split
  · rename_i o e
    have h' := List.find?_some (p := fun o => decide (mkey o = some (i : Int))) e
    rw [if_pos (by rw [h]; exact List.any_eq_true.2 ⟨o, List.mem_of_find?_eq_some e, h'⟩)]
  · rfl
/-- The sheet in the loop: its lines, and their row, lie below what the loop goes by. -/
def BM (w : World) (z : Zn.Z) (g5 g8 F bnd : Nat) (Fn : Nat → List UInt8) (W : World) : Prop :=
  ZBox W w.heap.size z ∧ LayAt W g5 (Zn.lay F) ∧ Below w.heap.size w W ∧ ∃ rows, SheetAt W (g8 + 1) g8 F rows ∧ Ln.txt rows = Zn.asm F Fn ∧ (∀ k ∈ rows.map (·.1), k < bnd) ∧ (∀ v, SheetIs W g8 (Zn.lay F) v → ∀ b, v.ownBlock = some b → b < bnd) ∧ g5 < g8 ∧ w.heap.size < g5 ∧ g8 < bnd
theorem SheetAt.lt {W : World} {base g F : Nat} {rows : List Ln} (h : SheetAt W base g F rows) : g < W.heap.size := by
  obtain ⟨v, h1, _⟩ := h; exact h1.lt
theorem BM.later {w W W' : World} {z : Zn.Z} {g5 g8 F bnd : Nat} {Fn : Nat → List UInt8} (h : BM w z g5 g8 F bnd Fn W) (hb : Below W.heap.size W W') : BM w z g5 g8 F bnd Fn W' := by
  obtain ⟨h1, h2, h3, rows, h4, h5, h6, h7, h8⟩ := h
  exact ⟨h1.later hb, h2.later hb, h3.trans (hb.mono h3.size), rows, h4.later hb, h5, h6, fun v hv => h7 v ((hb.block g8 h4.lt).symm.trans hv), h8⟩
/-- A row that lies beyond the bound is written. -/
theorem BM.beyond {w W W' : World} {z : Zn.Z} {g5 g8 F bnd r : Nat} {Fn : Nat → List UInt8} (h : BM w z g5 g8 F bnd Fn W) (hg : W.grownBy W' (some r)) (hr : bnd ≤ r) : BM w z g5 g8 F bnd Fn W' := by
  obtain ⟨h1, h2, h3, rows, h4, h5, h6, h7, h8, h9, h10⟩ := h
  have h48 := h4.lt
  refine ⟨h1.grown hg (by simp; omega), (hg.block g5 (Array.getElem?_eq_some_iff.1 h2).1 (by simp; omega)).trans h2, ⟨hg.os.trans h3.os, hg.tape.trans h3.tape, hg.output.trans h3.output, Nat.le_trans h3.size hg.size, fun j hj => (hg.block j (Nat.lt_of_lt_of_le hj h3.size) (by simp; omega)).trans (h3.block j hj)⟩, rows, ?_, h5, h6, fun v hv => h7 v ((hg.block g8 h48 (by simp; omega)).symm.trans hv), h8, h9, h10⟩
  obtain ⟨v, s1, s2, s3⟩ := h4
  refine ⟨v, s1.grown hg (by simp; omega), ⟨s2.1.kept hg ?_, s2.2.1, fun x hx => ?_⟩, s3⟩
  · rcases hv : v.ownBlock with _ | b
    · exact .inl rfl
    · refine .inr ?_
      have := h7 v s1 b hv
      simp; omega
  · obtain ⟨a1, a2, a3, a4, a5⟩ := s2.2.2 x hx
    have hx1 := h6 x.1 (List.mem_map.2 ⟨x, hx, rfl⟩)
    exact ⟨a1, Nat.lt_of_lt_of_le a2 hg.size, a3, a4, a5.grown hg (by simp; omega) a2⟩
theorem bm_put {w W : World} {z : Zn.Z} {g5 g8 F bnd : Nat} {Fn : Nat → List UInt8} (h : BM w z g5 g8 F bnd Fn W) (hF : 1 ≤ F ∧ F ≤ 3) (hW : Zn.Wide F Fn) (i : Nat) (hi : i < 15) (t : ByteArray) (ht : t.size ≤ 140737488355328) :
    Calls Tryz.prog 49 #[.pointer (some ⟨g8, 0, none⟩), .int .i64 i, .string t] W fun e W' => e = .returned (.tuple #[]) ∧ BM w z g5 g8 F bnd (Zn.upd Fn i (Zn.wide_ t.data.toList (Zn.wd F i))) W' ∧ ∃ k, g8 < k ∧ k < bnd ∧ W.grownBy W' (some k) := by
  obtain ⟨h1, h2, h3, rows, h4, h5, h6, h7, h8, h9, h10⟩ := h
  have hS := Zn.asm_len F hF Fn hW
  rw [← h5] at hS
  have hp := zput W (g8 + 1) g8 F rows hF h4 hS i hi t.data.toList (by rw [Opt.size_len]; exact ht)
  refine hp.mono ?_
  rintro e W' ⟨rfl, rows', r1, r2, r3, r4, k, hk, hg⟩
  have hk8 : g8 < k := by
    obtain ⟨r, hr, rfl⟩ := List.mem_map.1 hk
    obtain ⟨v, _, hl, _⟩ := h4
    have := (hl.2.2 r hr).1
    omega
  have hkb := h6 k hk
  refine ⟨rfl, ⟨h1.grown hg (by simp; omega), (hg.block g5 (Array.getElem?_eq_some_iff.1 h2).1 (by simp; omega)).trans h2, ⟨hg.os.trans h3.os, hg.tape.trans h3.tape, hg.output.trans h3.output, Nat.le_trans h3.size hg.size, fun j hj => (hg.block j (Nat.lt_of_lt_of_le hj h3.size) (by simp; omega)).trans (h3.block j hj)⟩, rows', r1, ?_, fun j hj => h6 j (by rw [← r2]; exact hj), fun v hv => h7 v ((hg.block g8 h4.lt (by simp; omega)).symm.trans hv), h8, h9, h10⟩, k, hk8, hkb, hg⟩
  rw [r3, h5, Zn.put_asm F hF Fn hW i hi]
theorem bm_get {w W : World} {z : Zn.Z} {g5 g8 F bnd : Nat} {Fn : Nat → List UInt8} (h : BM w z g5 g8 F bnd Fn W) (hF : 1 ≤ F ∧ F ≤ 3) (hW : Zn.Wide F Fn) (i : Nat) (hi : i < 15) :
    Calls Tryz.prog 34 #[.pointer (some ⟨g8, 0, none⟩), .int .i64 i] W fun e W' => e = .returned (.string ⟨(Fn i).toArray⟩) ∧ BM w z g5 g8 F bnd Fn W' := by
  have h' := h
  obtain ⟨h1, h2, h3, rows, h4, h5, _⟩ := h'
  have hS := Zn.asm_len F hF Fn hW
  rw [← h5] at hS
  refine (zget W (g8 + 1) g8 F rows hF h4 hS i hi).mono ?_
  rintro e W' ⟨rfl, hb⟩
  rw [h5, Zn.fld_asm F hF Fn hW i hi]
  exact ⟨rfl, h.later hb⟩
theorem bm_comp {w W : World} {z : Zn.Z} {g5 g8 F bnd : Nat} {Fn : Nat → List UInt8} (h : BM w z g5 g8 F bnd Fn W) (hF : 1 ≤ F ∧ F ≤ 3) (hW : Zn.Wide F Fn) :
    Calls Tryz.prog 50 #[.pointer (some ⟨g8, 0, none⟩)] W fun e W' => e = .returned (.string ⟨(Zn.comp F (Zn.asm F Fn)).toArray⟩) ∧ BM w z g5 g8 F bnd Fn W' := by
  have h' := h
  obtain ⟨h1, h2, h3, rows, h4, h5, _⟩ := h'
  have hS := Zn.asm_len F hF Fn hW
  rw [← h5] at hS
  refine (zcomposed W (g8 + 1) g8 F rows hF h4 hS).mono ?_
  rintro e W' ⟨rfl, hb⟩
  rw [h5]
  exact ⟨rfl, h.later hb⟩
/-- The fields once the number is put. -/
noncomputable def numF (z : Zn.Z) (f : Nat) (F : Nat → List UInt8) : Nat → List UInt8 :=
  if 9 < z.num.size then Zn.upd (Zn.upd F 3 (Zn.wide_ (z.num.extract 0 9).data.toList (Zn.wd f 3))) 11 (Zn.wide_ (z.num.extract 9 z.num.size ++ Opt.digS z.num ++ ⟨#[60]⟩ ++ z.opt).data.toList (Zn.wd f 11))
  else Zn.upd (Zn.upd (Zn.upd F 3 (Zn.wide_ z.num.data.toList (Zn.wd f 3))) 4 (Zn.wide_ (Opt.digS ⟨(Zn.upd F 3 (Zn.wide_ z.num.data.toList (Zn.wd f 3)) 3).toArray⟩).data.toList (Zn.wd f 4))) 11 (Zn.wide_ z.opt.data.toList (Zn.wd f 11))
noncomputable def optF (z : Zn.Z) (f : Nat) (F : Nat → List UInt8) : Nat → List UInt8 :=
  if z.opt.size = 0 then F else Zn.upd F 12 (Zn.wide_ (Opt.digS ⟨(F 11).toArray⟩).data.toList (Zn.wd f 12))
noncomputable def endF (f : Nat) (F : Nat → List UInt8) : Nat → List UInt8 := Zn.upd F 14 (Zn.wide_ (Opt.digS ⟨(Zn.comp f (Zn.asm f F)).toArray⟩).data.toList (Zn.wd f 14))
theorem numF_wide {z : Zn.Z} {f : Nat} {F : Nat → List UInt8} (h : Zn.Wide f F) : Zn.Wide f (numF z f F) := by
  unfold numF; split
  · exact Zn.upd_wide (Zn.upd_wide h _ _) _ _
  · exact Zn.upd_wide (Zn.upd_wide (Zn.upd_wide h _ _) _ _) _ _
theorem optF_wide {z : Zn.Z} {f : Nat} {F : Nat → List UInt8} (h : Zn.Wide f F) : Zn.Wide f (optF z f F) := by
  unfold optF; split
  · exact h
  · exact Zn.upd_wide h _ _
theorem digS_le (s : ByteArray) : (Opt.digS s).size ≤ 140737488355328 := by unfold Opt.digS; split <;> exact Nat.le_of_ble_eq_true rfl
theorem zwd_3 (F : Nat) (h : 1 ≤ F ∧ F ≤ 3) : Zn.wd F 3 ≤ 64 := by
  have h3 : F = 1 ∨ F = 2 ∨ F = 3 := by omega
  rcases h3 with rfl | rfl | rfl <;> decide
theorem zwd_11 (F : Nat) (h : 1 ≤ F ∧ F ≤ 3) : Zn.wd F 11 ≤ 64 := by
  have h3 : F = 1 ∨ F = 2 ∨ F = 3 := by omega
  rcases h3 with rfl | rfl | rfl <;> decide
theorem arr_size (l : List UInt8) : (⟨l.toArray⟩ : ByteArray).size = l.length := by simp [ByteArray.size]
theorem fld_small {F : Nat} {Fn : Nat → List UInt8} (hW : Zn.Wide F Fn) (i : Nat) (h : Zn.wd F i ≤ 64) : (⟨(Fn i).toArray⟩ : ByteArray).size ≤ 140737488351232 := by
  rw [arr_size, hW i]; omega
theorem line_small {F : Nat} {Fn : Nat → List UInt8} (hF : 1 ≤ F ∧ F ≤ 3) (hW : Zn.Wide F Fn) (i : Nat) : ((Zn.asm F Fn).getD i []).length ≤ 44 := by
  have hS := Zn.asm_len F hF Fn hW
  rw [List.getD_eq_getElem?_getD]
  cases e : (Zn.asm F Fn)[i]? with
  | none => simp
  | some l =>
    have := hS.2 l (List.mem_of_getElem? e)
    have hw : Zn.wLine F ≤ 44 := by unfold Zn.wLine; split; · omega
                                    split <;> omega
    simp only [Option.getD_some]; omega
theorem comp_small {F : Nat} {Fn : Nat → List UInt8} (hF : 1 ≤ F ∧ F ≤ 3) (hW : Zn.Wide F Fn) : (⟨(Zn.comp F (Zn.asm F Fn)).toArray⟩ : ByteArray).size ≤ 140737488351232 := by
  rw [arr_size]
  have h0 := line_small hF hW 0
  have h1 := line_small hF hW 1
  unfold Zn.comp
  split
  · simp only [List.length_append, List.length_take, List.length_drop]; omega
  · simp only [List.length_append, List.length_take, List.length_drop]; omega
end Go.Proofs.YtelngghecmkipaaGreatDoor
