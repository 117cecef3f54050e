/- Chapter 10, plain: Transliterate: runes, replacements, words. No program in sight. -/
import Derived.Test.YtdejgomljelnlaaDoorOptNames
import Derived.Lib.ValidLaws
import Derived.Lib.Fields
import Derived.Lib.Join
import Derived.Laws.Cover4
import Derived.Shelf.Unicode.CaseLaid
namespace Go.Proofs.YtdejgomljelnlaaDoor.Opt
open Go.RowKit Go.Lib

/-! ### the runes of a text -/
def rnsGo : Nat → List UInt8 → List Nat
  | 0, _ => []
  | n + 1, l => if l = [] then [] else (decodeL l).1 :: rnsGo n (l.drop (decodeL l).2)
def rns (l : List UInt8) : List Nat := rnsGo l.length l
theorem rnsGo_nil : ∀ n, rnsGo n [] = []
  | 0 => rfl
  | _ + 1 => by simp [rnsGo]
theorem rnsGo_fuel : ∀ (n m : Nat) (l : List UInt8), l.length ≤ n → l.length ≤ m → rnsGo n l = rnsGo m l
  | 0, m, l, hn, _ => by rw [List.eq_nil_of_length_eq_zero (by omega : l.length = 0), rnsGo_nil, rnsGo_nil]
  | n + 1, 0, l, _, hm => by rw [List.eq_nil_of_length_eq_zero (by omega : l.length = 0), rnsGo_nil, rnsGo_nil]
  | n + 1, m + 1, l, hn, hm => by
    unfold rnsGo
    by_cases hne : l = []
    · simp [hne]
    · have hw := decodeL_width l
      have hl : 0 < l.length := List.length_pos_iff.2 hne
      rw [if_neg hne, if_neg hne, rnsGo_fuel n m (l.drop (decodeL l).2) (by rw [List.length_drop]; omega) (by rw [List.length_drop]; omega)]
theorem rns_nil : rns [] = [] := rfl
theorem rns_step (l : List UInt8) (hne : l ≠ []) : rns l = (decodeL l).1 :: rns (l.drop (decodeL l).2) := by
  have hl : 0 < l.length := List.length_pos_iff.2 hne
  have hw := decodeL_width l
  obtain ⟨n, hn⟩ : ∃ n, l.length = n + 1 := ⟨l.length - 1, by omega⟩
  unfold rns
  rw [hn]
  show (if l = [] then [] else _) = _
  rw [if_neg hne, rnsGo_fuel n (l.drop (decodeL l).2).length _ (by rw [List.length_drop]; omega) (Nat.le_refl _)]
theorem rns_le : ∀ (n : Nat) (l : List UInt8), l.length ≤ n → ∀ r ∈ rns l, r ≤ 1114111
  | 0, l, hn, r, hr => by rw [List.eq_nil_of_length_eq_zero (by omega : l.length = 0)] at hr; simp [rns_nil] at hr
  | n + 1, l, hn, r, hr => by
    by_cases hne : l = []
    · rw [hne] at hr; simp [rns_nil] at hr
    · have hw := decodeL_width l
      have hl : 0 < l.length := List.length_pos_iff.2 hne
      rw [rns_step l hne] at hr
      rcases List.mem_cons.1 hr with rfl | hr
      · exact decodeL_rune l
      · exact rns_le n (l.drop (decodeL l).2) (by rw [List.length_drop]; omega) r hr
theorem rns_length : ∀ (n : Nat) (l : List UInt8), l.length ≤ n → (rns l).length ≤ l.length
  | 0, l, hn => by rw [List.eq_nil_of_length_eq_zero (by omega : l.length = 0)]; simp [rns_nil]
  | n + 1, l, hn => by
    by_cases hne : l = []
    · rw [hne]; simp [rns_nil]
    · have hw := decodeL_width l
      have hl : 0 < l.length := List.length_pos_iff.2 hne
      have := rns_length n (l.drop (decodeL l).2) (by rw [List.length_drop]; omega)
      rw [List.length_drop] at this
      rw [rns_step l hne, List.length_cons]; omega
/-- The runes' bytes. -/
def encs (l : List Nat) : List UInt8 := l.flatMap fun (r : Nat) => encodeRune (r : Int)
theorem bad_enc : encodeRune (65533 : Int) = [239, 191, 189] := by decide
theorem bad_dec (t : List UInt8) : decodeL (239 :: 191 :: 189 :: t) = (65533, 3) := by
  rw [decodeL_N]
  show decodeN (t.length + 1 + 1 + 1) 239 191 189 _ = _
  unfold decodeN
  simp
/-- A text is valid just if it is its runes' bytes. -/
theorem valid_iff : ∀ (n : Nat) (l : List UInt8), l.length ≤ n → (validD l = true ↔ encs (rns l) = l)
  | 0, l, hn => by rw [List.eq_nil_of_length_eq_zero (by omega : l.length = 0)]; simp [rns_nil, validD_nil, encs]
  | n + 1, l, hn => by
    by_cases hne : l = []
    · rw [hne]; simp [rns_nil, validD_nil, encs]
    · have hw := decodeL_width l
      have hl : 0 < l.length := List.length_pos_iff.2 hne
      have ih := valid_iff n (l.drop (decodeL l).2) (by rw [List.length_drop]; omega)
      rw [rns_step l hne, validD_step l hne]
      show _ ↔ encodeRune ((decodeL l).1 : Int) ++ encs (rns (l.drop (decodeL l).2)) = l
      by_cases hb : (decodeL l).1 = 65533 ∧ (decodeL l).2 = 1
      · rw [if_pos hb]
        refine ⟨fun h => by simp at h, fun h => ?_⟩
        exfalso
        rw [hb.1] at h
        have h2 := bad_enc
        rw [show ((65533 : Nat) : Int) = 65533 from rfl, h2] at h
        have h3 := bad_dec (encs (rns (l.drop (decodeL l).2)))
        have h4 : decodeL l = (65533, 3) := by
          rw [← h3]; exact congrArg decodeL h.symm
        have := hb.2
        rw [h4] at this
        simp at this
      · rw [if_neg hb, encode_decode l hne hb, ih]
        refine ⟨fun h => by rw [h, List.take_append_drop], fun h => ?_⟩
        have e : l.take (decodeL l).2 ++ encs (rns (l.drop (decodeL l).2)) = l.take (decodeL l).2 ++ l.drop (decodeL l).2 := by rw [h, List.take_append_drop]
        exact List.append_cancel_left e
/-- The runes as the model's conversion lays them. -/
theorem runesFrom_eq (s : ByteArray) : ∀ (n i : Nat) (acc : Array Value), Conv.runesFrom s n i acc = acc ++ ((rnsGo n (s.data.toList.drop i)).map fun (r : Nat) => Value.int .i32 (r : Int)).toArray
  | 0, i, acc => by simp [Conv.runesFrom, rnsGo]
  | n + 1, i, acc => by
    unfold Conv.runesFrom rnsGo
    by_cases h : i < s.size
    · have hne : s.data.toList.drop i ≠ [] := by
        intro e
        have := congrArg List.length e
        rw [List.length_drop, size_len] at this
        simp at this; omega
      rw [if_pos h, if_neg hne]
      simp only
      rw [runesFrom_eq s n (i + (Utf8.decode s i).2), decodeL_drop s i, List.drop_drop]
      simp
    · have he : s.data.toList.drop i = [] := List.drop_of_length_le (by rw [size_len]; omega)
      rw [if_neg h, if_pos he]
      simp
/-- Bytes below 128 are their own runes. -/
theorem rns_ascii : ∀ l : List UInt8, (∀ b ∈ l, b.toNat < 128) → rns l = l.map (·.toNat)
  | [], _ => rfl
  | b :: t, h => by
    rw [rns_step _ (by simp), decodeL_ascii b t (h b (by simp))]
    simp only [List.drop_succ_cons, List.drop_zero, List.map_cons]
    rw [rns_ascii t fun c hc => h c (by simp [hc])]
/-! ### replacements -/
/-- The letters of each replacement (their bytes), and what replaces them: the program's. -/
def capB : List (List UInt8 × List UInt8) := [([195, 128, 195, 129, 195, 130, 195, 131, 196, 128, 196, 130, 196, 132], [65]),
  ([195, 132, 195, 134], [65, 69]),
  ([195, 133], [65, 65]),
  ([195, 135, 196, 134, 196, 136, 196, 138, 196, 140], [67]),
  ([196, 142, 196, 144, 195, 144], [68]),
  ([195, 136, 195, 137, 195, 138, 195, 139, 196, 146, 196, 148, 196, 150, 196, 152, 196, 154], [69]),
  ([196, 156, 196, 158, 196, 160, 196, 162], [71]),
  ([196, 164, 196, 166], [72]),
  ([195, 140, 195, 141, 195, 142, 195, 143, 196, 168, 196, 170, 196, 172, 196, 174], [73]),
  ([196, 180], [74]),
  ([196, 182], [75]),
  ([196, 185, 196, 187, 196, 189, 196, 191, 197, 129], [76]),
  ([195, 145, 197, 131, 197, 133, 197, 135, 197, 138], [78]),
  ([195, 146, 195, 147, 195, 148, 195, 149, 197, 140, 197, 142, 197, 144], [79]),
  ([195, 150, 195, 152, 197, 146], [79, 69]),
  ([197, 148, 197, 150, 197, 152], [82]),
  ([197, 154, 197, 156, 197, 158, 197, 160], [83]),
  ([197, 162, 197, 164, 197, 166], [84]),
  ([195, 158], [84, 72]),
  ([195, 153, 195, 154, 195, 155, 197, 168, 197, 170, 197, 172, 197, 174, 197, 176, 197, 178], [85]),
  ([195, 156], [85, 69]),
  ([197, 180], [87]),
  ([195, 157, 197, 182, 197, 184], [89]),
  ([197, 185, 197, 187, 197, 189], [90])]
/-- The same of the reference: capital and small letters. -/
def rowB : List (List UInt8 × List UInt8) := [([195, 128, 195, 129, 195, 130, 195, 131, 196, 128, 196, 130, 196, 132, 195, 160, 195, 161, 195, 162, 195, 163, 196, 129, 196, 131, 196, 133], [65]),
  ([195, 132, 195, 134, 195, 164, 195, 166], [65, 69]),
  ([195, 133, 195, 165], [65, 65]),
  ([195, 135, 196, 134, 196, 136, 196, 138, 196, 140, 195, 167, 196, 135, 196, 137, 196, 139, 196, 141], [67]),
  ([196, 142, 196, 144, 195, 144, 196, 143, 196, 145, 195, 176], [68]),
  ([195, 136, 195, 137, 195, 138, 195, 139, 196, 146, 196, 148, 196, 150, 196, 152, 196, 154, 195, 168, 195, 169, 195, 170, 195, 171, 196, 147, 196, 149, 196, 151, 196, 153, 196, 155], [69]),
  ([196, 156, 196, 158, 196, 160, 196, 162, 196, 157, 196, 159, 196, 161, 196, 163], [71]),
  ([196, 164, 196, 166, 196, 165, 196, 167], [72]),
  ([195, 140, 195, 141, 195, 142, 195, 143, 196, 168, 196, 170, 196, 172, 196, 174, 195, 172, 195, 173, 195, 174, 195, 175, 196, 169, 196, 171, 196, 173, 196, 175, 196, 177, 196, 176], [73]),
  ([196, 180, 196, 181], [74]),
  ([196, 182, 196, 183], [75]),
  ([196, 185, 196, 187, 196, 189, 196, 191, 197, 129, 196, 186, 196, 188, 196, 190, 197, 128, 197, 130], [76]),
  ([195, 145, 197, 131, 197, 133, 197, 135, 197, 138, 195, 177, 197, 132, 197, 134, 197, 136, 197, 139], [78]),
  ([195, 146, 195, 147, 195, 148, 195, 149, 197, 140, 197, 142, 197, 144, 195, 178, 195, 179, 195, 180, 195, 181, 197, 141, 197, 143, 197, 145], [79]),
  ([195, 150, 195, 152, 197, 146, 195, 182, 195, 184, 197, 147], [79, 69]),
  ([197, 148, 197, 150, 197, 152, 197, 149, 197, 151, 197, 153], [82]),
  ([197, 154, 197, 156, 197, 158, 197, 160, 197, 155, 197, 157, 197, 159, 197, 161], [83]),
  ([197, 162, 197, 164, 197, 166, 197, 163, 197, 165, 197, 167], [84]),
  ([195, 158, 195, 190], [84, 72]),
  ([195, 153, 195, 154, 195, 155, 197, 168, 197, 170, 197, 172, 197, 174, 197, 176, 197, 178, 195, 185, 195, 186, 195, 187, 197, 169, 197, 171, 197, 173, 197, 175, 197, 177, 197, 179], [85]),
  ([195, 156, 195, 188], [85, 69]),
  ([197, 180, 197, 181], [87]),
  ([195, 157, 197, 182, 197, 184, 195, 189, 197, 183, 195, 191], [89]),
  ([197, 185, 197, 187, 197, 189, 197, 186, 197, 188, 197, 190], [90]),
  ([195, 159], [83, 83])]
/-- The runes of letters of two bytes each. -/
def two : List UInt8 → List Nat
  | a :: b :: t => ((a.toNat - 192) * 64 + (b.toNat - 128)) :: two t
  | _ => []
/-- What stands for a rune (the program's). -/
def rep (r : Nat) : Option (List UInt8) :=
  if 65 ≤ r ∧ r ≤ 90 then some [UInt8.ofNat r]
  else if 97 ≤ r ∧ r ≤ 122 then some [UInt8.ofNat (r - 32)]
  else if r = 223 then some [83, 83]
  else if r = 305 ∨ r = 304 then some [73]
  else if r = 39 ∨ r = 44 ∨ r = 46 then some []
  else if r = 32 ∨ r = 45 then some [32]
  else (capB.find? fun x => (two x.1).contains (toUpperU r).toNat).map (·.2)
/-- The reference's letters. -/
def ltr (r : Nat) : List UInt8 :=
  if 65 ≤ r ∧ r ≤ 90 then [UInt8.ofNat r]
  else if 97 ≤ r ∧ r ≤ 122 then [UInt8.ofNat (r - 32)]
  else ((rowB.find? fun x => (two x.1).contains r).map (·.2)).getD []
/-- A rune in the reference's terms. -/
def want (r : Nat) : Option (List UInt8) :=
  if r = 39 ∨ r = 44 ∨ r = 46 then some [] else if r = 32 ∨ r = 45 then some [32] else if ltr r = [] then none else some (ltr r)
def small : Nat → Bool
  | 0 => true
  | n + 1 => (rep n == want n) && small n
set_option maxRecDepth 100000 in
theorem small_all : small 592 = true := by kernel_rfl
theorem small_at : ∀ n, small n = true → ∀ r, r < n → rep r = want r
  | 0, _, r, hr => by omega
  | n + 1, h, r, hr => by
    simp only [small, Bool.and_eq_true, beq_iff_eq] at h
    by_cases e : r = n
    · rw [e]; exact h.1
    · exact small_at n h.2 r (by omega)
theorem rowB_small : (rowB.all fun x => (two x.1).all fun c => decide (c < 592)) = true := by kernel_rfl
theorem capB_mid : (capB.all fun x => (two x.1).all fun c => decide (192 ≤ c ∧ c < 382)) = true := by kernel_rfl
/-- Of a row of the table from 592 on: no image lies among the letters. -/
def farRow (x : CaseRow) : Bool :=
  decide (x.2.1 < 592) || (decide (592 ≤ x.1) && (if x.delta 0 > 1114111 then true else decide (382 ≤ (x.1 : Int) + x.delta 0) || decide ((x.2.1 : Int) + x.delta 0 < 192)))
set_option maxRecDepth 1000000 in
theorem far_all : caseT.all farRow = true := by decide
theorem upper_far (r : Nat) (h : 592 ≤ r) : (toUpperU r).toNat < 192 ∨ 382 ≤ (toUpperU r).toNat := by
  unfold toUpperU toR lookupGo
  rw [if_neg (by omega)]
  cases hi : lookupIdx caseA r (caseA.size + 1) 0 caseA.size with
  | none => simp; omega
  | some i =>
    obtain ⟨hil, hlo, hhi⟩ := lookupIdx_some caseA r _ _ _ i hi
    have hm : caseA.getD i (0, 0, 0, 0, 0) ∈ caseT := by
      unfold caseA at hil ⊢
      simp only [List.size_toArray] at hil
      simp [Array.getD, hil]
    have hf := List.all_eq_true.1 far_all _ hm
    simp only [Option.map_some]
    generalize caseA.getD i (0, 0, 0, 0, 0) = x at hlo hhi hf ⊢
    simp only [farRow, Bool.or_eq_true, Bool.and_eq_true, decide_eq_true_eq] at hf
    unfold convertR
    rcases hf with hf | ⟨h1, hf⟩
    · omega
    · by_cases hd : x.delta 0 > 1114111
      · rw [if_pos hd]; omega
      · rw [if_neg hd] at hf ⊢
        simp only [Bool.or_eq_true, decide_eq_true_eq] at hf
        omega
/-- The program's replacement is the reference's. -/
theorem rep_want (r : Nat) : rep r = want r := by
  by_cases h : r < 592
  · exact small_at 592 small_all r h
  · have hn : (rowB.find? fun x => (two x.1).contains r) = none := by
      rw [List.find?_eq_none]
      intro x hx hc
      have h1 := List.all_eq_true.1 (List.all_eq_true.1 rowB_small x hx) r (by simpa using hc)
      have := of_decide_eq_true h1
      omega
    have hc : (capB.find? fun x => (two x.1).contains (toUpperU r).toNat) = none := by
      rw [List.find?_eq_none]
      intro x hx hc
      have h1 := List.all_eq_true.1 (List.all_eq_true.1 capB_mid x hx) _ (by simpa using hc)
      have := of_decide_eq_true h1
      have := upper_far r (by omega)
      omega
    have hl : ltr r = [] := by
      unfold ltr
      rw [if_neg (by omega), if_neg (by omega), hn]; rfl
    unfold rep want
    rw [hc, hl, if_neg (by omega), if_neg (by omega), if_neg (by omega), if_neg (by omega), if_neg (by omega), if_neg (by omega), if_neg (by omega), if_neg (by omega)]
    simp
theorem rowB_let : (rowB.all fun x => x.2.all isL && !x.2.isEmpty) = true := by kernel_rfl
theorem ltr_let (r : Nat) : ∀ b ∈ ltr r, isL b = true := by
  have hb : ∀ n, 65 ≤ n → n ≤ 90 → isL (UInt8.ofNat n) = true := fun n h1 h2 => by
    have : (UInt8.ofNat n).toNat = n := by simp; omega
    unfold isL; rw [this]; simp; omega
  intro b hm
  unfold ltr at hm
  split at hm
  · rename_i h; simp at hm; rw [hm]; exact hb r h.1 h.2
  · split at hm
    · rename_i h; simp at hm; rw [hm]; exact hb (r - 32) (by omega) (by omega)
    · cases hf : rowB.find? fun x => (two x.1).contains r with
      | none => rw [hf] at hm; simp at hm
      | some x =>
        rw [hf] at hm
        have h1 := List.all_eq_true.1 rowB_let x (List.mem_of_find?_eq_some hf)
        simp only [Bool.and_eq_true] at h1
        exact List.all_eq_true.1 h1.1 b (by simpa using hm)
/-! ### words -/
/-- What stands for all runes. -/
def outs : List Nat → Option (List UInt8)
  | [] => some []
  | r :: t => match rep r with
    | none => none
    | some x => (outs t).map (x ++ ·)
/-- As the reference goes: the text so far, and whether a gap was seen. -/
def refT : List Nat → List UInt8 → Bool → Option (List UInt8)
  | [], o, _ => some o
  | r :: t, o, g =>
    if r = 39 ∨ r = 44 ∨ r = 46 then refT t o g
    else if r = 32 ∨ r = 45 then refT t o true
    else if ltr r = [] then none
    else refT t ((if g && !o.isEmpty then o ++ [32] else o) ++ ltr r) false
theorem not_sp {b : UInt8} (h : isL b = true) : isSp b = false := by
  unfold isL at h
  simp only [Bool.and_eq_true, decide_eq_true_eq] at h
  cases hs : isSp b with
  | false => rfl
  | true =>
    have h1 := (isSp_true hs).2
    unfold isSp at hs
    simp only [Bool.or_eq_true, beq_iff_eq] at hs
    rcases hs with ((((h2 | h2) | h2) | h2) | h2) | h2 <;> rw [h2] at h <;> simp at h
theorem fieldsGo_let : ∀ (x cur l : List UInt8), (∀ b ∈ x, isL b = true) → fieldsGo cur (x ++ l) = fieldsGo (cur ++ x) l
  | [], cur, l, _ => by simp
  | b :: t, cur, l, h => by
    rw [List.cons_append, fieldsGo_more cur b _ (not_sp (h b (by simp))), fieldsGo_let t (cur ++ [b]) l fun c hc => h c (by simp [hc])]
    simp
theorem fieldsGo_end0 (cur : List UInt8) : fieldsGo cur [] = if cur = [] then [] else [cur] := by
  cases cur <;> rfl
/-- Words joined. -/
def J (ws : List (List UInt8)) : List UInt8 := join ws [32]
theorem J_nil : J [] = [] := rfl
theorem J_cons (x : List UInt8) (r : List (List UInt8)) : J (x :: r) = x ++ joinTail [32] r := join_cons x r [32]
theorem joinTail_app (r s : List (List UInt8)) : joinTail [32] (r ++ s) = joinTail [32] r ++ joinTail [32] s := by simp [joinTail]
theorem J_snoc (ws : List (List UInt8)) (x : List UInt8) : J (ws ++ [x]) = if ws = [] then x else J ws ++ 32 :: x := by
  cases ws with
  | nil => rw [List.nil_append, J_cons]; simp [joinTail]
  | cons y r => rw [List.cons_append, J_cons, J_cons, joinTail_app]; simp [joinTail]
theorem J_last (ws : List (List UInt8)) (x y : List UInt8) : J (ws ++ [x ++ y]) = J (ws ++ [x]) ++ y := by
  rw [J_snoc, J_snoc]; split <;> simp
theorem J_ne {ws : List (List UInt8)} (hw : ∀ x ∈ ws, x ≠ []) (h : ws ≠ []) : J ws ≠ [] := by
  cases ws with
  | nil => exact absurd rfl h
  | cons x r => rw [J_cons]; intro e; exact hw x (by simp) (List.append_eq_nil_iff.1 e).1
/-- The words so far and the one that is being read. -/
def wc (ws : List (List UInt8)) (cur : List UInt8) : List (List UInt8) := ws ++ if cur = [] then [] else [cur]
theorem refT_eq : ∀ (rs : List Nat) (ws : List (List UInt8)) (cur : List UInt8) (g : Bool), (∀ x ∈ ws, x ≠ []) → (cur = [] → ws ≠ [] → g = true) → (cur ≠ [] → g = false) →
    refT rs (J (wc ws cur)) g = (outs rs).map fun o => J (ws ++ fieldsGo cur o)
  | [], ws, cur, g, _, _, _ => by
    simp only [refT, outs, Option.map_some, fieldsGo_end0]; rfl
  | r :: t, ws, cur, g, hw, h1, h2 => by
    unfold refT outs
    rw [rep_want]
    unfold want
    by_cases c1 : r = 39 ∨ r = 44 ∨ r = 46
    · rw [if_pos c1, if_pos c1, refT_eq t ws cur g hw h1 h2]
      simp
    · rw [if_neg c1, if_neg c1]
      by_cases c2 : r = 32 ∨ r = 45
      · rw [if_pos c2, if_pos c2]
        have hsp : isSp 32 = true := by decide
        by_cases hc : cur = []
        · subst hc
          rw [refT_eq t ws [] true hw (fun _ _ => rfl) (fun h => absurd rfl h)]
          simp only [Option.map_map]
          congr 1
        · have e : J (wc ws cur) = J (wc (ws ++ [cur]) []) := by simp [wc, hc]
          rw [e, refT_eq t (ws ++ [cur]) [] true (fun x hx => by
            rcases List.mem_append.1 hx with hx | hx
            · exact hw x hx
            · simp at hx; rw [hx]; exact hc) (fun _ _ => rfl) (fun h => absurd rfl h)]
          simp only [Option.map_map]
          congr 1
          funext o
          show _ = J (ws ++ fieldsGo cur (32 :: o))
          rw [fieldsGo_end cur 32 o hsp hc]
          simp
      · rw [if_neg c2, if_neg c2]
        by_cases c3 : ltr r = []
        · rw [if_pos c3, if_pos c3]; rfl
        · rw [if_neg c3, if_neg c3]
          have e : (if g && !(J (wc ws cur)).isEmpty then J (wc ws cur) ++ [32] else J (wc ws cur)) ++ ltr r = J (wc ws (cur ++ ltr r)) := by
            have hne : cur ++ ltr r ≠ [] := by simp [c3]
            have e1 : wc ws (cur ++ ltr r) = ws ++ [cur ++ ltr r] := by unfold wc; rw [if_neg hne]
            rw [e1]
            by_cases hc : cur = []
            · subst hc
              by_cases hws : ws = []
              · subst hws
                rw [J_snoc, if_pos rfl]
                simp [wc, J_nil]
              · have hJ : J (wc ws []) = J ws := by simp [wc]
                have hJn : (J ws).isEmpty = false := by
                  cases hq : J ws with
                  | nil => exact absurd hq (J_ne hw hws)
                  | cons _ _ => rfl
                rw [hJ, hJn, h1 rfl hws, J_snoc, if_neg hws]
                simp
            · have hJ : J (wc ws cur) = J (ws ++ [cur]) := by simp [wc, hc]
              rw [h2 hc, J_last, hJ]
              simp
          rw [e, refT_eq t ws (cur ++ ltr r) false hw (fun h _ => absurd (List.append_eq_nil_iff.1 h).2 c3) (fun _ => rfl)]
          simp only [Option.map_map]
          congr 1
          funext o
          show _ = J (ws ++ fieldsGo cur (ltr r ++ o))
          rw [fieldsGo_let _ cur o (ltr_let r)]
/-- The reference's text is the words of the program's. -/
theorem refT_all (rs : List Nat) : refT rs [] false = (outs rs).map fun o => J (fields o) := by
  have := refT_eq rs [] [] false (fun _ h => by cases h) (fun _ h => absurd rfl h) (fun h => absurd rfl h)
  simpa [wc, J_nil, fields] using this
/-! ### the result is a name, which stays -/
/-- What a replacement is made of. -/
theorem outs_let : ∀ (rs : List Nat) (o : List UInt8), outs rs = some o → ∀ b ∈ o, isL b = true ∨ b = 32
  | [], o, h, b, hb => by simp [outs] at h; rw [h] at hb; cases hb
  | r :: t, o, h, b, hb => by
    unfold outs at h
    rw [rep_want] at h
    cases hr : want r with
    | none => rw [hr] at h; cases h
    | some x =>
      rw [hr] at h
      cases ho : outs t with
      | none => rw [ho] at h; cases h
      | some o' =>
        rw [ho] at h
        simp at h
        rw [← h] at hb
        rcases List.mem_append.1 hb with hb | hb
        · unfold want at hr
          split at hr
          · simp at hr; rw [hr] at hb; cases hb
          · split at hr
            · simp at hr; rw [← hr] at hb; simp at hb; exact .inr hb
            · split at hr
              · cases hr
              · simp at hr; rw [← hr] at hb; exact .inl (ltr_let r b hb)
        · exact outs_let t o' ho b hb
/-- A word: letters, at least one. -/
def Wd (x : List UInt8) : Prop := x ≠ [] ∧ ∀ b ∈ x, isL b = true
theorem fieldsGo_wd : ∀ (o cur : List UInt8), (∀ b ∈ o, isL b = true ∨ b = 32) → (∀ b ∈ cur, isL b = true) → ∀ x ∈ fieldsGo cur o, Wd x
  | [], cur, _, hc, x, hx => by
    rw [fieldsGo_end0] at hx
    by_cases e : cur = []
    · rw [if_pos e] at hx; cases hx
    · rw [if_neg e] at hx; simp at hx; rw [hx]; exact ⟨e, hc⟩
  | b :: t, cur, ho, hc, x, hx => by
    have ht : ∀ c ∈ t, isL c = true ∨ c = 32 := fun c h => ho c (by simp [h])
    rcases ho b (by simp) with hb | rfl
    · rw [fieldsGo_more cur b t (not_sp hb)] at hx
      exact fieldsGo_wd t (cur ++ [b]) ht (fun c h => by
        rcases List.mem_append.1 h with h | h
        · exact hc c h
        · simp at h; rw [h]; exact hb) x hx
    · by_cases e : cur = []
      · rw [e, fieldsGo_sp 32 t (by decide)] at hx
        exact fieldsGo_wd t [] ht (fun c h => by cases h) x hx
      · rw [fieldsGo_end cur 32 t (by decide) e] at hx
        rcases List.mem_cons.1 hx with rfl | hx
        · exact ⟨e, hc⟩
        · exact fieldsGo_wd t [] ht (fun c h => by cases h) x hx
theorem J_cons2 (x y : List UInt8) (r : List (List UInt8)) : J (x :: y :: r) = x ++ 32 :: J (y :: r) := by
  rw [J_cons, J_cons]; simp [joinTail]
theorem fields_J : ∀ (ws : List (List UInt8)), (∀ x ∈ ws, Wd x) → fields (J ws) = ws
  | [], _ => rfl
  | [x], h => by
    have hx := h x (by simp)
    have := fieldsGo_let x [] [] hx.2
    rw [List.append_nil, List.nil_append, fieldsGo_end0, if_neg hx.1] at this
    rw [J_cons]; simpa [fields, joinTail] using this
  | x :: y :: r, h => by
    have hx := h x (by simp)
    rw [J_cons2]
    unfold fields
    rw [fieldsGo_let x [] _ hx.2, List.nil_append, fieldsGo_end x 32 _ (by decide) hx.1]
    have := fields_J (y :: r) fun z hz => h z (by simp at hz; simp [hz])
    unfold fields at this
    rw [this]
theorem J_mem : ∀ (ws : List (List UInt8)), (∀ x ∈ ws, Wd x) → ∀ b ∈ J ws, isL b = true ∨ b = 32
  | [], _, b, hb => by cases hb
  | [x], h, b, hb => by
    rw [J_cons] at hb; simp [joinTail] at hb; exact .inl ((h x (by simp)).2 b hb)
  | x :: y :: r, h, b, hb => by
    rw [J_cons2] at hb
    rcases List.mem_append.1 hb with hb | hb
    · exact .inl ((h x (by simp)).2 b hb)
    · rcases List.mem_cons.1 hb with rfl | hb
      · exact .inr rfl
      · exact J_mem (y :: r) (fun z hz => h z (by simp at hz; simp [hz])) b hb
theorem outs_same : ∀ l : List UInt8, (∀ b ∈ l, isL b = true ∨ b = 32) → outs (l.map (·.toNat)) = some l
  | [], _ => rfl
  | b :: t, h => by
    rw [List.map_cons]
    unfold outs
    have hr : rep b.toNat = some [b] := by
      rcases h b (by simp) with hb | rfl
      · unfold isL at hb
        simp only [Bool.and_eq_true, decide_eq_true_eq] at hb
        unfold rep
        rw [if_pos (by omega)]; simp
      · decide
    rw [hr, outs_same t fun c hc => h c (by simp [hc])]
    rfl
theorem let_small {b : UInt8} (h : isL b = true ∨ b = 32) : b.toNat < 128 := by
  rcases h with h | rfl
  · unfold isL at h; simp only [Bool.and_eq_true, decide_eq_true_eq] at h; omega
  · decide
/-- The words at each place, from the left: what stands ahead is a letter or not. -/
theorem words_J : ∀ ws : List (List UInt8), (∀ x ∈ ws, Wd x) → words 32 (J ws) = true := by
  have key : ∀ (x m : List UInt8), Wd x → m ≠ [] → words 32 m = true → words 32 (x ++ 32 :: m) = true := by
    intro x m hx hm hw
    refine words_yes fun k hk => ?_
    have hxl : 0 < x.length := List.length_pos_iff.2 hx.1
    have hml : 0 < m.length := List.length_pos_iff.2 hm
    have g1 : ∀ j, j < x.length → isL ((x ++ 32 :: m).getD j 0) = true := fun j hj => by
      have : (x ++ 32 :: m).getD j 0 = x[j] := by simp [List.getD, List.getElem?_append_left hj, List.getElem?_eq_getElem hj]
      rw [this]; exact hx.2 _ (List.getElem_mem hj)
    have g2 : (x ++ 32 :: m).getD x.length 0 = 32 := by simp [List.getD]
    have g3 : ∀ j, (x ++ 32 :: m).getD (x.length + 1 + j) 0 = m.getD j 0 := fun j => by
      simp only [List.getD]
      rw [List.getElem?_append_right (by omega), show x.length + 1 + j - x.length = j + 1 by omega, List.getElem?_cons_succ]
    have hlen : (x ++ 32 :: m).length = x.length + 1 + m.length := by simp; omega
    by_cases c1 : k < x.length
    · unfold wAt; rw [g1 k c1]; rfl
    · by_cases c2 : k = x.length
      · unfold wAt
        have h1 := g1 (x.length - 1) (by omega)
        rw [c2, g2, hlen]
        have h2 : ((x ++ 32 :: m).getD (x.length - 1) 0 != 32) = true := by
          cases he : (x ++ 32 :: m).getD (x.length - 1) 0 != 32 with
          | true => rfl
          | false =>
            simp at he
            simp only [List.getD] at h1
            rw [he] at h1
            exact absurd h1 (by decide)
        rw [h2]
        simp; omega
      · obtain ⟨j, rfl⟩ : ∃ j, k = x.length + 1 + j := ⟨k - (x.length + 1), by omega⟩
        rw [hlen] at hk
        have h1 := words_at hw j (by omega)
        unfold wAt at h1 ⊢
        rw [g3, hlen]
        simp only [Bool.or_eq_true, Bool.and_eq_true, decide_eq_true_eq] at h1 ⊢
        rcases h1 with h1 | ⟨⟨⟨h1, h2⟩, h3⟩, h4⟩
        · exact .inl h1
        · refine .inr ⟨⟨⟨h1, by omega⟩, by omega⟩, ?_⟩
          rw [show x.length + 1 + j - 1 = x.length + 1 + (j - 1) by omega, g3]
          exact h4
  intro ws
  induction ws with
  | nil => intro _; rfl
  | cons x r ih =>
    intro h
    have hx := h x (by simp)
    have hr := ih fun y hy => h y (by simp [hy])
    cases r with
    | nil =>
      rw [J_cons]
      simp only [joinTail, List.map_nil, List.flatten_nil, List.append_nil]
      refine words_yes fun k hk => ?_
      unfold wAt
      rw [show x.getD k 0 = x[k] by simp [List.getD, List.getElem?_eq_getElem hk], hx.2 _ (List.getElem_mem hk)]
      rfl
    | cons y r => rw [J_cons2]; exact key x _ hx (J_ne (fun z hz => (h z (by simp at hz; simp [hz])).1) (by simp)) hr
/-! ### the answers -/
/-- The transliterated text. -/
def trL (l : List UInt8) : List UInt8 := if validD l = true then (match outs (rns l) with | some o => J (fields o) | none => []) else []
def trE (l : List UInt8) : Int := if validD l = true then (match outs (rns l) with | some _ => 0 | none => 12) else 1
theorem validD_small : ∀ l : List UInt8, (∀ b ∈ l, b.toNat < 128) → validD l = true
  | [], _ => rfl
  | b :: t, h => by rw [validD_cons b t (h b (by simp))]; exact validD_small t fun c hc => h c (by simp [hc])
/-- The result is a name, which stays as it is. -/
theorem tr_twice (l : List UInt8) : words 32 (trL l) = true ∧ trE (trL l) = 0 ∧ trL (trL l) = trL l := by
  have key : ∀ ws : List (List UInt8), (∀ x ∈ ws, Wd x) → words 32 (J ws) = true ∧ trE (J ws) = 0 ∧ trL (J ws) = J ws := by
    intro ws hw
    have hm := J_mem ws hw
    have hs : ∀ b ∈ J ws, b.toNat < 128 := fun b hb => let_small (hm b hb)
    have ho : outs (rns (J ws)) = some (J ws) := by rw [rns_ascii _ hs]; exact outs_same _ hm
    refine ⟨words_J ws hw, ?_, ?_⟩
    · unfold trE; rw [if_pos (validD_small _ hs), ho]
    · unfold trL; rw [if_pos (validD_small _ hs), ho]; simp only; rw [fields_J ws hw]
  unfold trL
  by_cases hv : validD l = true
  · rw [if_pos hv]
    cases ho : outs (rns l) with
    | none => exact key [] fun x hx => by cases hx
    | some o => exact key (fields o) (fieldsGo_wd o [] (outs_let _ o ho) fun b hb => by cases hb)
  · rw [if_neg hv]
    exact key [] fun x hx => by cases hx
end Go.Proofs.YtdejgomljelnlaaDoor.Opt
