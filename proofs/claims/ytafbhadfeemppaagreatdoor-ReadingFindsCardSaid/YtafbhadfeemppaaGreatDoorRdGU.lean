/- Chapter 12: several texts in one (RdGrowQ, RdLaw5). -/
import Derived.Test.YtafbhadfeemppaaGreatDoorRdGB
import Derived.Test.YtafbhadfeemppaaGreatDoorRdGA
import Derived.Laws.Cover1
import Derived.Sort.Walk0
namespace Go.Proofs.YtafbhadfeemppaaGreatDoor
open Go.RowKit Go.ChangeShapes Go.WideShapes

theorem below_dice12 {w w1 w2 : World} {g : Nat} (hb : Below w.heap.size w w1) (hg : w1.grownBy w2 (some g)) (h : w.heap.size ≤ g) : Below w.heap.size w w2 :=
  hb.grown hg hb.size (fun k hk => by injection hk with hk; omega)
theorem OwnGrid.grid {w : World} {base c H : Nat} {A : Option Addr} {K : List (List ByteArray)} (h : OwnGrid w base A c K H) (hK : ∀ R ∈ K, R.length = H) : GridAt w A K := by
  obtain ⟨vs, h1, h2, h3⟩ := h
  exact own_grid h1 h2 h3 hK
theorem OwnGrid.set {w : World} {base c H ga k : Nat} {A : Option Addr} {K : List (List ByteArray)} (h : OwnGrid w base A c K H) (hg : ga < base) (x : Value) : OwnGrid (w.setCell ⟨ga, k, none⟩ x) base A c K H := by
  obtain ⟨vs, h1, h2, h3⟩ := h
  exact ⟨vs, ownsRow_setCell_below h1 hg x, h2, fun i a b => ownsRow_setCell_below (h3 i a b) hg x⟩
theorem rdK_row {G : List (List ByteArray)} {R : List ByteArray} (h : R ∈ rdK G) : R.length = G.length := KS_len h
theorem flat_small {R : List ByteArray} (hl : LinesOf R) {K : List (List ByteArray)} (h1 : K.length = R.length) (h2 : ∀ i (h : i < K.length) (h' : i < R.length), K[i].length = R[i].size) : K.flatten.length ≤ 4194304 := by
  have hs := hl.small
  have key : ∀ (K : List (List ByteArray)), (∀ r ∈ K, r.length ≤ 44) → K.flatten.length ≤ 44 * K.length := by
    intro K
    induction K with
    | nil => simp
    | cons a t ih =>
      intro h
      have := ih fun r hr => h r (List.mem_cons_of_mem _ hr)
      have := h a (by simp)
      rw [List.flatten_cons, List.length_append, List.length_cons]; omega
  have := key K fun r hr => by
    obtain ⟨i, hi, rfl⟩ := List.getElem_of_mem hr
    have hi' : i < R.length := by omega
    rw [h2 i hi hi']
    exact (hs.2 _ (List.getElem_mem hi')).2
  omega
end Go.Proofs.YtafbhadfeemppaaGreatDoor

namespace Go.Proofs.YtafbhadfeemppaaGreatDoor
open Go.RowKit Go.ChangeShapes Go.WideShapes

/-- The lists of a reading's choices ascend, and each is made of the places' characters. -/
theorem rdK_asc {K : List (List ByteArray)} (hok : okG K = true) : (rdK K).Pairwise fun R S => (txts R).flatten < (txts S).flatten := by
  obtain ⟨_, _, hfl⟩ := okG_shape hok
  unfold rdK
  rw [ks_prod]
  refine List.Pairwise.filter _ ?_
  rw [List.pairwise_map]
  have key : ∀ t ∈ Rd.prod (flatG K), (txts (lineS K.length (K.headD []).length t)).flatten = t := fun t ht => by
    have h1 := Rd.prod_len ht
    have e : txts (lineS K.length (K.headD []).length t) = Rd.cut (K.headD []).length K.length t := by
      unfold txts lineS
      rw [List.map_map]
      conv => rhs; rw [← List.map_id (Rd.cut _ _ _)]
      apply List.map_congr_left
      intro l _; rfl
    rw [e, Rd.cut_flat _ _ _ (by rw [h1, hfl])]
  have hp := Rd.prod_asc (L := flatG K) fun b hb => by
    unfold flatG at hb
    obtain ⟨s, _, rfl⟩ := List.mem_map.1 hb
    exact Rd.srt_asc _
  refine hp.imp_of_mem fun {a b} ha hb h => ?_
  rw [key a ha, key b hb]; exact h
theorem flat_at5 {G : List (List ByteArray)} {m : Nat} (h : ∀ r ∈ G, r.length = m) {i k : Nat} (hi : i < G.length) (hk : k < G[i].length) : (flatG G)[i * m + k]? = some (Rd.srt G[i][k].data.toList) := by
  unfold flatG
  rw [List.getElem?_map]
  have key : ∀ (G : List (List ByteArray)) (_ : ∀ r ∈ G, r.length = m) (i : Nat) (hi : i < G.length) (hk : k < G[i].length), G.flatten[i * m + k]? = some G[i][k] := by
    intro G
    induction G with
    | nil => intro _ i hi; simp at hi
    | cons r g ih =>
      intro h i hi hk
      have hr := h r (List.mem_cons_self ..)
      rw [List.flatten_cons]
      cases i with
      | zero =>
        have hk' : k < r.length := hk
        rw [Nat.zero_mul, Nat.zero_add, List.getElem?_append_left hk', List.getElem?_eq_getElem hk']; rfl
      | succ i =>
        rw [Nat.succ_mul, List.getElem?_append_right (by omega)]
        have e : i * m + m + k - r.length = i * m + k := by omega
        rw [e]
        exact ih (fun x hx => h x (List.mem_cons_of_mem _ hx)) i (by simpa using hi) hk
  rw [key G h i hi hk]; rfl
theorem rdK_mem {K : List (List ByteArray)} (hok : okG K = true) {R : List ByteArray} (h : R ∈ rdK K) :
    Zn.prsE (txts R) = 0 ∧ ∀ i (hi : i < K.length) (hi' : i < R.length), R[i].size = K[i].length ∧ ∀ k (hk : k < K[i].length) (hk' : k < R[i].size), R[i][k] ∈ K[i][k].data.toList := by
  obtain ⟨_, hall, hfl⟩ := okG_shape hok
  unfold rdK at h
  rw [ks_prod] at h
  obtain ⟨h1, h2⟩ := List.mem_filter.1 h
  obtain ⟨t, ht, rfl⟩ := List.mem_map.1 h1
  refine ⟨of_decide_eq_true h2, fun i hi hi' => ?_⟩
  have hrow := hall _ (List.getElem_mem hi)
  obtain ⟨Wd, hWd⟩ : ∃ Wd, (K.headD []).length = Wd := ⟨_, rfl⟩
  rw [hWd] at hall hfl hrow
  have hm := Rd.mem_prod.1 ht
  have hg := lineS_get (H := K.length) (Wd := Wd) (t := t) hi
  have hiW : i * Wd + Wd ≤ t.length := by
    rw [hm.1, hfl, ← Nat.succ_mul]; exact Nat.mul_le_mul_right Wd hi
  have key : ∀ (S : ByteArray), S = ⟨((t.drop (i * Wd)).take Wd).toArray⟩ → S.size = K[i].length ∧ ∀ k (hk : k < K[i].length) (hk' : k < S.size), S[k] ∈ K[i][k].data.toList := fun S hS => by
    subst hS
    have hl : ((t.drop (i * Wd)).take Wd).length = Wd := by rw [List.length_take, List.length_drop]; omega
    refine ⟨by rw [str_size, hl, hrow], fun k hk hk' => ?_⟩
    have hkw : k < Wd := by rw [hrow] at hk; exact hk
    have hq : i * Wd + k < t.length := by omega
    have e1 : (⟨((t.drop (i * Wd)).take Wd).toArray⟩ : ByteArray)[k] = t[i * Wd + k] := by
      show ((t.drop (i * Wd)).take Wd)[k]'(by omega) = _
      rw [List.getElem_take, List.getElem_drop]
    rw [e1]
    have hf := flat_at5 hall hi hk
    have hqf : i * Wd + k < (flatG K).length := by rw [← hm.1]; exact hq
    rw [List.getElem?_eq_getElem hqf] at hf
    injection hf with hf
    have := hm.2 (i * Wd + k) hq hqf
    rw [hf] at this
    exact Rd.mem_srt.1 this
  refine key _ ?_
  have h3 : (lineS K.length Wd t)[i]? = some ((lineS K.length Wd t)[i]'(by rw [lineS_len]; exact hi)) := List.getElem?_eq_getElem _
  rw [hg] at h3
  injection h3 with h3
  have : ∀ (m : Nat) (e : (K.headD []).length = m) (h' : i < (lineS K.length (K.headD []).length t).length) (h'' : i < (lineS K.length m t).length), (lineS K.length (K.headD []).length t)[i] = (lineS K.length m t)[i] := fun m e h' h'' => by subst e; rfl
  rw [this Wd hWd hi' (by rw [lineS_len]; exact hi)]
  exact h3.symm
/-- The texts of the first rows, one behind the other. -/
def catS (R : List ByteArray) : ByteArray := ⟨(txts R).flatten.toArray⟩
theorem catS_succ {R : List ByteArray} {i : Nat} (h : i < R.length) : catS (R.take (i + 1)) = catS (R.take i) ++ R[i] := by
  apply str_eq
  unfold catS txts
  rw [List.take_succ_eq_append_getElem h, List.map_append, List.flatten_append]
  simp
theorem cat_len : ∀ (R : List ByteArray), (∀ s ∈ R, s.size ≤ 44) → (txts R).flatten.length ≤ 44 * R.length
  | [], _ => by simp [txts]
  | s :: r, h => by
    have h1 := cat_len r fun x hx => h x (List.mem_cons_of_mem _ hx)
    have h2 : s.data.toList.length ≤ 44 := by rw [Opt.size_len]; exact h s (by simp)
    have e : (txts (s :: r)).flatten = s.data.toList ++ (txts r).flatten := by unfold txts; rw [List.map_cons, List.flatten_cons]
    rw [e, List.length_append, List.length_cons]; omega
theorem catS_size (R : List ByteArray) (h : ∀ s ∈ R, s.size ≤ 44) : (catS R).size ≤ 44 * R.length := by
  unfold catS; rw [str_size]; exact cat_len R h
theorem catS_lt {R S : List ByteArray} (h : (txts R).flatten < (txts S).flatten) : Op.bytesLess (catS S).toList (catS R).toList = false ∧ ((catS S).toList == (catS R).toList) = false := by
  have e : ∀ R, (catS R).toList = (txts R).flatten := fun R => by rw [ByteArray.toList_eq]; rfl
  rw [e, e, bytesLess_eq]
  constructor
  · rw [decide_eq_false_iff_not]; exact List.lt_asymm h
  · rw [beq_eq_false_iff_ne]; intro h2; rw [h2] at h; exact List.lt_irrefl _ h
end Go.Proofs.YtafbhadfeemppaaGreatDoor
