/- Chapter 11: the lines of a valid zone pass; plain. -/
import Derived.Test.YtelngghecmkipaaGreatDoorZonKeysP
import Derived.Test.YtelngghecmkipaaGreatDoorZonParse
import Derived.Test.YtelngghecmkipaaGreatDoorZonPlain3
namespace Go.Proofs.YtelngghecmkipaaGreatDoor
open Go.RowKit
namespace Zn
theorem comp_free_3 {G : Nat → List UInt8} (hW : Wide 3 G) (X : List UInt8) : comp 3 (asm 3 (upd G 14 X)) = comp 3 (asm 3 G) := by
  have hreg : ∀ Y, G 3 ++ (G 4 ++ (G 5 ++ (G 6 ++ (G 7 ++ (G 8 ++ (G 9 ++ (G 10 ++ (G 11 ++ (G 12 ++ Y))))))))) = (G 3 ++ (G 4 ++ (G 5 ++ (G 6 ++ (G 7 ++ (G 8 ++ (G 9 ++ (G 10 ++ (G 11 ++ G 12))))))))) ++ Y := by intro Y; simp only [List.append_assoc]
  have hlen : (G 3 ++ (G 4 ++ (G 5 ++ (G 6 ++ (G 7 ++ (G 8 ++ (G 9 ++ (G 10 ++ (G 11 ++ G 12))))))))).length = wLine 3 - 1 := by
    simp only [List.length_append]
    rw [hW 3, hW 4, hW 5, hW 6, hW 7, hW 8, hW 9, hW 10, hW 11, hW 12]; rfl
  rw [asm_3, asm_3, upd_same, upd_ne G X (show 0 ≠ 14 by decide), upd_ne G X (show 1 ≠ 14 by decide), upd_ne G X (show 2 ≠ 14 by decide), upd_ne G X (show 3 ≠ 14 by decide), upd_ne G X (show 4 ≠ 14 by decide), upd_ne G X (show 5 ≠ 14 by decide), upd_ne G X (show 6 ≠ 14 by decide), upd_ne G X (show 7 ≠ 14 by decide), upd_ne G X (show 8 ≠ 14 by decide), upd_ne G X (show 9 ≠ 14 by decide), upd_ne G X (show 10 ≠ 14 by decide), upd_ne G X (show 11 ≠ 14 by decide), upd_ne G X (show 12 ≠ 14 by decide), hreg, hreg, comp_tail (by decide) hlen (by decide), comp_tail (by decide) hlen (by decide)]
theorem comp_free_2 {G : Nat → List UInt8} (hW : Wide 2 G) (X : List UInt8) : comp 2 (asm 2 (upd G 14 X)) = comp 2 (asm 2 G) := by
  have hreg : ∀ Y, G 3 ++ (G 4 ++ (G 5 ++ (G 6 ++ (G 7 ++ (G 8 ++ (G 9 ++ (G 10 ++ (G 11 ++ Y)))))))) = (G 3 ++ (G 4 ++ (G 5 ++ (G 6 ++ (G 7 ++ (G 8 ++ (G 9 ++ (G 10 ++ G 11)))))))) ++ Y := by intro Y; simp only [List.append_assoc]
  have hlen : (G 3 ++ (G 4 ++ (G 5 ++ (G 6 ++ (G 7 ++ (G 8 ++ (G 9 ++ (G 10 ++ G 11)))))))).length = wLine 2 - 1 := by
    simp only [List.length_append]
    rw [hW 3, hW 4, hW 5, hW 6, hW 7, hW 8, hW 9, hW 10, hW 11]; rfl
  rw [asm_2, asm_2, upd_same, upd_ne G X (show 0 ≠ 14 by decide), upd_ne G X (show 1 ≠ 14 by decide), upd_ne G X (show 2 ≠ 14 by decide), upd_ne G X (show 3 ≠ 14 by decide), upd_ne G X (show 4 ≠ 14 by decide), upd_ne G X (show 5 ≠ 14 by decide), upd_ne G X (show 6 ≠ 14 by decide), upd_ne G X (show 7 ≠ 14 by decide), upd_ne G X (show 8 ≠ 14 by decide), upd_ne G X (show 9 ≠ 14 by decide), upd_ne G X (show 10 ≠ 14 by decide), upd_ne G X (show 11 ≠ 14 by decide), hreg, hreg, comp_tail (by decide) hlen (by decide), comp_tail (by decide) hlen (by decide)]
theorem comp_free_1 {G : Nat → List UInt8} (hW : Wide 1 G) (X : List UInt8) : comp 1 (asm 1 (upd G 14 X)) = comp 1 (asm 1 G) := by
  have hreg : ∀ Y, G 6 ++ (G 7 ++ (G 8 ++ (G 9 ++ (G 10 ++ (G 5 ++ (G 13 ++ Y)))))) = (G 6 ++ (G 7 ++ (G 8 ++ (G 9 ++ (G 10 ++ (G 5 ++ G 13)))))) ++ Y := by intro Y; simp only [List.append_assoc]
  have hlen : (G 6 ++ (G 7 ++ (G 8 ++ (G 9 ++ (G 10 ++ (G 5 ++ G 13)))))).length = 29 := by
    simp only [List.length_append]
    rw [hW 6, hW 7, hW 8, hW 9, hW 10, hW 5, hW 13]; rfl
  have hc : ∀ (a B Y c : List UInt8), B.length = 29 → comp 1 [a, B ++ Y, c] = a.drop 5 ++ B.take 7 ++ (B.drop 8).take 7 ++ (B.drop 18).take 11 := by
    intro a B Y c hB
    unfold comp
    rw [if_pos rfl]
    show a.drop 5 ++ (B ++ Y).take 7 ++ ((B ++ Y).drop 8).take 7 ++ ((B ++ Y).drop 18).take 11 = _
    rw [List.take_append_of_le_length (by omega), List.drop_append_of_le_length (by omega), List.drop_append_of_le_length (by omega), List.take_append_of_le_length (by rw [List.length_drop]; omega), List.take_append_of_le_length (by rw [List.length_drop]; omega)]
  rw [asm_1, asm_1, upd_same, upd_ne G X (show 0 ≠ 14 by decide), upd_ne G X (show 1 ≠ 14 by decide), upd_ne G X (show 2 ≠ 14 by decide), upd_ne G X (show 3 ≠ 14 by decide), upd_ne G X (show 4 ≠ 14 by decide), upd_ne G X (show 11 ≠ 14 by decide), upd_ne G X (show 6 ≠ 14 by decide), upd_ne G X (show 7 ≠ 14 by decide), upd_ne G X (show 8 ≠ 14 by decide), upd_ne G X (show 9 ≠ 14 by decide), upd_ne G X (show 10 ≠ 14 by decide), upd_ne G X (show 5 ≠ 14 by decide), upd_ne G X (show 13 ≠ 14 by decide), hreg, hreg, hc _ _ _ _ hlen, hc _ _ _ _ hlen]
theorem comp_free {F : Nat} (hF : 1 ≤ F ∧ F ≤ 3) {G : Nat → List UInt8} (hW : Wide F G) (X : List UInt8) : comp F (asm F (upd G 14 X)) = comp F (asm F G) := by
  have h3 : F = 1 ∨ F = 2 ∨ F = 3 := by omega
  rcases h3 with rfl | rfl | rfl
  · exact comp_free_1 hW X
  · exact comp_free_2 hW X
  · exact comp_free_3 hW X
theorem dgl_dg {l : List UInt8} (h : Opt.valid l = true) : dgl l = dg l := by
  unfold dgl dg Opt.digS
  rw [if_pos (show Opt.valid (⟨l.toArray⟩ : ByteArray).data.toList = true from h)]
theorem dg_ne (l : List UInt8) : dg l ≠ [60] := by
  unfold dg Opt.digit
  intro e
  injection e with e
  have h1 := b8_toNat (48 + Opt.sum l % 10) (by omega) (by omega)
  rw [e] at h1
  have h2 : ((60 : UInt8).toNat : Int) = 60 := rfl
  omega
theorem tr_fill (l : List UInt8) (k : Nat) : tr (l ++ List.replicate k 60) = tr l := Opt.trim_fill l k
theorem tr_last {l : List UInt8} (h : l.getLast? ≠ some 60) : tr l = l := by
  unfold tr Lib.trimRightB
  cases hr : l.reverse with
  | nil => rw [List.reverse_eq_nil_iff] at hr; subst hr; rfl
  | cons c r =>
    have hl : l = r.reverse ++ [c] := by have := congrArg List.reverse hr; simpa using this
    have hc : c ≠ 60 := by
      intro e; apply h; rw [hl, e]; simp
    rw [List.dropWhile_cons_of_neg (by simpa using hc), hl]
    simp
theorem tr_wide {l : List UInt8} {n : Nat} (h : l.length ≤ n) (hl : l.getLast? ≠ some 60) : tr (wide_ l n) = l := by
  rw [wide_fit h, tr_fill, tr_last hl]
theorem plain_last {s : ByteArray} (h : plain s = true) : (bl s).getLast? ≠ some 60 := by
  intro e
  have := List.all_eq_true.1 h 60 (List.mem_of_getLast? e)
  revert this; decide
theorem letters_last {s : ByteArray} {n : Int} (h : letters s n = true) : (bl s).getLast? ≠ some 60 := by
  intro e
  unfold letters at h
  simp only [Bool.and_eq_true] at h
  have := List.all_eq_true.1 h.2.2 60 (List.mem_of_getLast? e)
  revert this; decide
theorem extra_last {s : ByteArray} (h : extra s = true) : (bl s).getLast? ≠ some 60 := by
  unfold extra at h
  simp only [Bool.and_eq_true, bne_iff_ne] at h
  exact h.2.2
theorem wds (F : Nat) (hF : 1 ≤ F ∧ F ≤ 3) : wd F 0 = 2 ∧ wd F 1 = 3 ∧ wd F 3 = 9 ∧ wd F 4 = 1 ∧ wd F 5 = 3 ∧ wd F 6 = 6 ∧ wd F 7 = 1 ∧ wd F 8 = 1 ∧ wd F 9 = 6 ∧ wd F 10 = 1 ∧ wd F 14 = 1 ∧ (1 ≤ wd F 2 ∧ wd F 2 ≤ 64) := by
  have h3 : F = 1 ∨ F = 2 ∨ F = 3 := by omega
  rcases h3 with rfl | rfl | rfl <;> exact ⟨rfl, rfl, rfl, rfl, rfl, rfl, rfl, rfl, rfl, rfl, rfl, by decide⟩
theorem letter_ok {x : UInt8} (h : Opt.fchar x = true) : Opt.ok x = true := by
  unfold Opt.fchar Opt.isL at h
  simp only [Bool.or_eq_true, Bool.and_eq_true, decide_eq_true_eq, beq_iff_eq] at h
  rcases h with h | h
  · unfold Opt.ok Opt.val
    rw [if_neg (by omega), if_pos h]; exact decide_eq_true (by omega)
  · first | (rw [h]; decide) | (unfold Opt.ok Opt.val; rw [if_neg (by omega), if_neg (by omega), if_pos h]; rfl)
theorem nm_valid {z : Z} (h : Good z) (n : Nat) (h1 : 1 ≤ n ∧ n ≤ 64) : Opt.valid (Opt.nmV z.sur.data.toList z.giv.data.toList n) = true := by
  have hok : Opt.nmOk z.sur.data.toList z.giv.data.toList := ⟨h.sur, h.giv, fun e => h.sur0 (by rw [← Opt.size_len, e]; rfl)⟩
  unfold Opt.nmV
  rw [if_neg (by rintro (g | g | g); exact g hok; omega; omega)]
  refine valid_takeN (valid_app ?_ (valid_fill _)) _
  have hc := Opt.nmL_chars (a := z.sur.data.toList) (b := z.giv.data.toList) h.sur h.giv
  unfold Opt.chars at hc
  refine List.all_eq_true.2 fun x hx => ?_
  have := List.all_eq_true.1 hc x hx
  exact letter_ok this
theorem mtxt_valid {z : Z} (h : Good z) (F : Nat) (hF : 1 ≤ F ∧ F ≤ 3) (o : Nat) : Opt.valid (bl (mtxt ⟨0, z, ⟨(Opt.nmV z.sur.data.toList z.giv.data.toList (wd F 2)).toArray⟩, Opt.digS z.birth, Opt.digS z.exp⟩ o)) = true := by
  unfold mtxt
  split
  · exact letters_valid h.kind
  · exact letters_valid h.state
  · exact nm_valid h _ (wds F hF).2.2.2.2.2.2.2.2.2.2.2
  · exact letters_valid h.nat
  · exact birth_valid h.birth
  · exact digS_valid _
  · exact sex_valid h.sex
  · exact exp_valid h.exp
  · exact digS_valid _
  · exact extra_valid h.sec
  · rfl
theorem mapF_valid {z : Z} (h : Good z) (F : Nat) (hF : 1 ≤ F ∧ F ≤ 3) (i : Nat) : Opt.valid (mapF F z i) = true := by
  unfold mapF midF
  split
  · rw [if_neg (fun hh => (by cases hh))]
    exact valid_wide (mtxt_valid h F hF _) _
  · exact valid_fill _
theorem upd_valid {G : Nat → List UInt8} (hG : ∀ i, Opt.valid (G i) = true) (j : Nat) {t : List UInt8} (ht : Opt.valid t = true) (i : Nat) : Opt.valid (upd G j t i) = true := by
  unfold upd
  split
  · exact ht
  · exact hG i
theorem numF_valid {z : Z} (h : Good z) {F : Nat} {G : Nat → List UInt8} (hG : ∀ i, Opt.valid (G i) = true) (i : Nat) : Opt.valid (numF z F G i) = true := by
  have hn := plain_valid h.num
  unfold numF
  split
  · refine upd_valid (upd_valid hG 3 (valid_wide ?_ _)) 11 (valid_wide ?_ _) i
    · show Opt.valid (bl _) = true
      rw [bl_extract, ext_len]; exact valid_takeN (valid_dropN hn _) _
    · show Opt.valid (bl _) = true
      rw [bl_app, bl_app, bl_app, bl_extract, ext_len]
      exact valid_app (valid_app (valid_app (valid_takeN (valid_dropN hn _) _) (digS_valid _)) (by decide)) (extra_valid h.opt)
  · exact upd_valid (upd_valid (upd_valid hG 3 (valid_wide hn _)) 4 (valid_wide (digS_valid _) _)) 11 (valid_wide (extra_valid h.opt) _) i
theorem optF_valid {z : Z} {F : Nat} {G : Nat → List UInt8} (hG : ∀ i, Opt.valid (G i) = true) (i : Nat) : Opt.valid (optF z F G i) = true := by
  unfold optF
  split
  · exact hG i
  · exact upd_valid hG 12 (valid_wide (digS_valid _) _) i
theorem bldF_valid {z : Z} (h : Good z) (F : Nat) (hF : 1 ≤ F ∧ F ≤ 3) (i : Nat) : Opt.valid (bldF F z i) = true :=
  upd_valid (optF_valid (numF_valid h (mapF_valid h F hF))) 14 (valid_wide (digS_valid _) _) i
theorem asm_valid {F : Nat} {G : Nat → List UInt8} (hG : ∀ i, Opt.valid (G i) = true) : (asm F G).all Opt.valid = true := by
  refine List.all_eq_true.2 fun l hl => ?_
  obtain ⟨o, _, rfl⟩ := List.mem_map.1 hl
  refine List.all_eq_true.2 fun c hc => ?_
  obtain ⟨t, ht, hct⟩ := List.mem_flatten.1 hc
  obtain ⟨i, _, rfl⟩ := List.mem_map.1 ht
  exact List.all_eq_true.1 (hG i) c hct
theorem getD_valid {L : List (List UInt8)} (h : L.all Opt.valid = true) (i : Nat) : Opt.valid (L.getD i []) = true := by
  rw [List.getD_eq_getElem?_getD]
  cases hq : L[i]? with
  | none => rfl
  | some x => exact List.all_eq_true.1 h x (List.mem_of_getElem? hq)
theorem comp_valid {F : Nat} {L : List (List UInt8)} (h : L.all Opt.valid = true) : Opt.valid (comp F L) = true := by
  unfold comp
  split
  · exact valid_app (valid_app (valid_app (valid_dropN (getD_valid h 0) _) (valid_takeN (getD_valid h 1) _)) (valid_takeN (valid_dropN (getD_valid h 1) _) _)) (valid_takeN (valid_dropN (getD_valid h 1) _) _)
  · exact valid_app (valid_app (valid_takeN (getD_valid h 1) _) (valid_takeN (valid_dropN (getD_valid h 1) _) _)) (valid_takeN (valid_dropN (getD_valid h 1) _) _)
theorem shape_asm {F : Nat} (hF : 1 ≤ F ∧ F ≤ 3) {L : List (List UInt8)} (hS : Shaped F L) : shape L = F := by
  obtain ⟨h1, h2⟩ := hS
  have h3 : F = 1 ∨ F = 2 ∨ F = 3 := by omega
  unfold shape
  rcases h3 with rfl | rfl | rfl
  · have e : L.length = 3 := h1
    rw [if_neg (by omega), if_neg (by omega), if_pos ⟨e, h2⟩]
  · have e : L.length = 2 := h1
    have hne : ¬ (L.length = 2 ∧ ∀ l ∈ L, l.length = 44) := by
      rintro ⟨_, h⟩
      cases L with
      | nil => cases e
      | cons a r =>
        have q1 := h a List.mem_cons_self
        have q2 : a.length = 36 := h2 a List.mem_cons_self
        omega
    rw [if_neg hne, if_pos ⟨e, h2⟩]
  · have e : L.length = 2 := h1
    rw [if_pos ⟨e, h2⟩]
theorem pok_eq {f : Nat} {L : List (List UInt8)} {p q : Nat} (h : fld f L q = dg (fld f L p)) : pok f L p q = true := by
  unfold pok; rw [decide_eq_true h]; simp
theorem pok_num {f : Nat} {L : List (List UInt8)} {q : Nat} (h : fld f L q = [60]) : pok f L 3 q = true := by
  unfold pok; rw [decide_eq_true (show (3 : Nat) = 3 ∧ fld f L q = [60] from ⟨rfl, h⟩)]; simp
theorem pok_zero {f : Nat} {L : List (List UInt8)} {p q : Nat} (h : (place f q).2.2 = 0) : pok f L p q = true := by
  unfold pok; rw [decide_eq_true h]; rfl
theorem pok_opt {f : Nat} {L : List (List UInt8)} {q : Nat} (h : tr (fld f L 11) = []) (h' : fld f L q = [60]) : pok f L 11 q = true := by
  unfold pok; rw [decide_eq_true (show (11 : Nat) = 11 ∧ tr (fld f L 11) = [] ∧ fld f L q = [60] from ⟨rfl, h, h'⟩)]; simp
theorem tr_all (n : Nat) : tr (List.replicate n 60) = [] := by
  have := tr_fill [] n
  rw [List.nil_append] at this
  rw [this]; rfl
theorem fG3 {z : Z} {F : Nat} (hF : 1 ≤ F ∧ F ≤ 3) : bldF F z 3 = if 9 < z.num.size then bl (z.num.extract 0 9) else bl (wS z.num 9) := by
  unfold bldF
  rw [endF_at (by decide), optF_at (by decide)]
  exact num3_eq (wds F hF).2.2.1
theorem fG4 {z : Z} (h : Good z) {F : Nat} (hF : 1 ≤ F ∧ F ≤ 3) : bldF F z 4 = if 9 < z.num.size then [60] else dgl (bl (wS z.num 9)) := by
  unfold bldF
  rw [endF_at (by decide), optF_at (by decide)]
  exact num4_eq h (wds F hF).2.2.1 (wds F hF).2.2.2.1
theorem fG11 {z : Z} {F : Nat} : bldF F z 11 = wide_ (bl (nuB z.num ++ z.opt)) (wd F 11) := by
  unfold bldF
  rw [endF_at (by decide), optF_at (by decide)]
  exact num11
theorem chk_bld {z : Z} (h : Good z) (F : Nat) (hF : 1 ≤ F ∧ F ≤ 3) (hf : z.fmt = F) : chk F (asm F (bldF F z)) = true := by
  have hW := bld_wide F z
  have hg := fun i (hi : i < 15) => fld_asm F hF (bldF F z) hW i hi
  obtain ⟨w0, w1, w3, w4, w5, w6, w7, w8, w9, w10, w14, w2⟩ := wds F hF
  have hb := fun i (hi : i ≠ 3 ∧ i ≠ 4 ∧ i ≠ 11 ∧ i ≠ 12 ∧ i ≠ 14) => bldF_at (F := F) (z := z) hi
  unfold chk pairs
  simp only [List.all_cons, List.all_nil, Bool.and_true, Bool.and_eq_true, decide_eq_true_eq]
  refine ⟨⟨?_, ?_, ?_, ?_⟩, ?_⟩
  · by_cases h9 : 9 < z.num.size
    · exact pok_num (by rw [hg 4 (by decide), fG4 h hF, if_pos h9])
    · refine pok_eq ?_
      rw [hg 4 (by decide), hg 3 (by decide), fG4 h hF, fG3 hF, if_neg h9, if_neg h9]
      exact dgl_dg (valid_wS (plain_valid h.num) 9)
  · refine pok_eq ?_
    rw [hg 7 (by decide), hg 6 (by decide), hb 7 (by decide), hb 6 (by decide), birthD_f h w7, birth_f h w6]
    exact dgl_dg (birth_valid h.birth)
  · refine pok_eq ?_
    rw [hg 10 (by decide), hg 9 (by decide), hb 10 (by decide), hb 9 (by decide), expD_f h w10, exp_f h w9]
    exact dgl_dg (exp_valid h.exp)
  · by_cases h3 : F = 3
    · subst h3
      have hnB : nuB z.num = ⟨#[]⟩ := if_pos (h.num3 hf)
      have e11 : bldF 3 z 11 = wide_ (bl z.opt) 14 := by
        rw [fG11, hnB]
        congr 1
      have e12 : bldF 3 z 12 = if z.opt.size = 0 then [60] else dgl (bldF 3 z 11) := by
        have h11 : bldF 3 z 11 = numF z 3 (mapF 3 z) 11 := by unfold bldF; rw [endF_at (by decide), optF_at (by decide)]; rfl
        rw [h11]
        have hv : Opt.valid (numF z 3 (mapF 3 z) 11) = true := numF_valid h (mapF_valid h 3 (by decide)) 11
        have := opt12 (z := z) (F := 3) (N := numF z 3 (mapF 3 z)) rfl (by rw [numF_at (by decide), map12]; rfl) hv
        rw [← this]
        unfold bldF
        rw [endF_at (by decide)]; rfl
      by_cases ho : z.opt.size = 0
      · refine pok_opt ?_ (by rw [hg 12 (by decide), e12, if_pos ho])
        rw [hg 11 (by decide), e11]
        have hnil : bl z.opt = [] := List.eq_nil_of_length_eq_zero (by rw [bl_len]; exact ho)
        rw [hnil, wide_fit (by decide)]
        exact tr_all 14
      · refine pok_eq ?_
        rw [hg 12 (by decide), hg 11 (by decide), e12, if_neg ho]
        exact dgl_dg (bldF_valid h 3 (by decide) 11)
    · refine pok_zero ?_
      have h12 : F = 1 ∨ F = 2 := by omega
      rcases h12 with rfl | rfl <;> rfl
  · rw [hg 14 (by decide)]
    have hWN := optF_wide (z := z) (numF_wide (z := z) (mid_wide ⟨0, z, ⟨(Opt.nmV z.sur.data.toList z.giv.data.toList (wd F 2)).toArray⟩, Opt.digS z.birth, Opt.digS z.exp⟩ F fun _ => false))
    have hc : comp F (asm F (bldF F z)) = comp F (asm F (optF z F (numF z F (mapF F z)))) := comp_free hF hWN _
    rw [hc]
    have hv : Opt.valid (comp F (asm F (optF z F (numF z F (mapF F z))))) = true := comp_valid (asm_valid (optF_valid (numF_valid h (mapF_valid h F hF))))
    rw [← dgl_dg hv]
    show endF F (optF z F (numF z F (mapF F z))) 14 = _
    unfold endF
    rw [upd_same, w14]
    exact wide_full (dgl_len hv)
theorem cut_app {P R : List UInt8} (h : ∀ c ∈ P, c ≠ 60) : Lib.cut (P ++ 60 :: R) [60] = (P, R, true) := by
  rw [cut_hit P.length (by simp) (fun j hj => by
    rw [List.getD_eq_getElem?_getD, List.getElem?_append_left hj, List.getElem?_eq_getElem hj]
    exact h _ (List.getElem_mem hj)) (by
    rw [List.getD_eq_getElem?_getD, List.getElem?_append_right (Nat.le_refl _), Nat.sub_self]; rfl)]
  have e : (P ++ 60 :: R).drop (P.length + 1) = R := by
    rw [show P ++ 60 :: R = (P ++ [60]) ++ R by simp]
    exact List.drop_left' (by simp)
  rw [e, List.take_left]
theorem ne_of_plain {s : ByteArray} (h : plain s = true) : ∀ c ∈ bl s, c ≠ 60 := fun c hc => by
  have := List.all_eq_true.1 h c hc
  simp only [Bool.and_eq_true, bne_iff_ne] at this
  exact this.2
theorem opt_fit {z : Z} (h : Good z) (F : Nat) (hF : 1 ≤ F ∧ F ≤ 3) (hf : z.fmt = F) : (nuB z.num ++ z.opt).size ≤ wd F 11 := by
  rw [ByteArray.size_append, h.nuB_size]
  have h3 : F = 1 ∨ F = 2 ∨ F = 3 := by omega
  rcases h3 with rfl | rfl | rfl
  · exact h.opt15 hf
  · exact h.opt7 hf
  · have := h.num3 hf
    rw [if_neg (by omega)]
    exact h.opt14 hf
theorem nums_bld {z : Z} (h : Good z) (F : Nat) (hF : 1 ≤ F ∧ F ≤ 3) (hf : z.fmt = F) : nums F (asm F (bldF F z)) = (bl z.num, bl z.opt, 0) := by
  have hW := bld_wide F z
  have hg := fun i (hi : i < 15) => fld_asm F hF (bldF F z) hW i hi
  have hfit := opt_fit h F hF hf
  unfold nums
  rw [hg 3 (by decide), hg 4 (by decide), hg 11 (by decide), fG3 hF, fG4 h hF, fG11]
  by_cases h9 : 9 < z.num.size
  · rw [if_pos h9, if_pos h9, if_neg (fun hh => hh rfl)]
    have hF3 : F ≠ 3 := by
      intro e; subst e
      have := h.num3 hf; omega
    have hnB : nuB z.num = z.num.extract 9 z.num.size ++ Opt.digS z.num ++ ⟨#[60]⟩ := if_neg (by omega)
    have hnv := plain_valid h.num
    have e1 : bl (z.num.extract 9 z.num.size) = (bl z.num).drop 9 := by
      rw [bl_extract, ext_len, List.take_of_length_le (by rw [List.length_drop, bl_len]; omega)]
    have e0 : bl (z.num.extract 0 9) = (bl z.num).take 9 := by rw [bl_extract, ext_len, List.drop_zero]
    have hd : bl (Opt.digS z.num) = [Opt.digit (bl z.num)] := by rw [dgl_eq rfl, dgl_dg hnv]; rfl
    have hdn : Opt.digit (bl z.num) ≠ 60 := fun e => dg_ne (bl z.num) (by unfold dg; rw [e])
    have eG : wide_ (bl (nuB z.num ++ z.opt)) (wd F 11) = ((bl z.num).drop 9 ++ [Opt.digit (bl z.num)]) ++ 60 :: (bl z.opt ++ List.replicate (wd F 11 - (nuB z.num ++ z.opt).size) 60) := by
      rw [wide_fit (by rw [bl_len]; exact hfit), bl_len, bl_app, hnB, bl_app, bl_app, e1, hd]
      show (bl z.num).drop 9 ++ [Opt.digit (bl z.num)] ++ [60] ++ bl z.opt ++ _ = _
      simp only [List.append_assoc, List.cons_append, List.nil_append]
    have hP : ∀ c ∈ (bl z.num).drop 9 ++ [Opt.digit (bl z.num)], c ≠ 60 := by
      intro c hc
      rcases List.mem_append.1 hc with h1 | h1
      · exact ne_of_plain h.num c (List.mem_of_mem_drop h1)
      · rw [List.mem_singleton.1 h1]; exact hdn
    rw [eG, cut_app hP]
    have hl : ((bl z.num).drop 9 ++ [Opt.digit (bl z.num)]).length = z.num.size - 9 + 1 := by
      rw [List.length_append, List.length_drop, bl_len]; rfl
    have hdl : ((bl z.num).drop 9 ++ [Opt.digit (bl z.num)]).dropLast = (bl z.num).drop 9 := List.dropLast_concat
    have hdr : ((bl z.num).drop 9 ++ [Opt.digit (bl z.num)]).drop (((bl z.num).drop 9 ++ [Opt.digit (bl z.num)]).length - 1) = [Opt.digit (bl z.num)] :=
      List.drop_left' (by rw [List.length_append]; rfl)
    dsimp only
    rw [if_neg (by rintro (g | g | g); omega; cases g; exact hF3 g), hdl, hdr, e0, List.take_append_drop]
    rw [if_neg (fun hh => hh rfl), tr_fill, tr_last (extra_last h.opt)]
  · rw [if_neg h9, if_neg h9, dgl_dg (valid_wS (plain_valid h.num) 9), if_pos (dg_ne _), wS_wide (by omega), tr_wide (by rw [bl_len]; omega) (plain_last h.num), tr_wide (by rw [bl_len]; exact hfit) ?_]
    · have hnB : nuB z.num = ⟨#[]⟩ := if_pos (by omega)
      rw [hnB, bl_app]; rfl
    · have hnB : nuB z.num = ⟨#[]⟩ := if_pos (by omega)
      rw [hnB, bl_app]
      exact extra_last h.opt
theorem mk_bl (s : ByteArray) : (⟨(bl s).toArray⟩ : ByteArray) = s := bl_ext rfl
/-- The field of the names. -/
noncomputable def nmS (z : Z) (F : Nat) : ByteArray := ⟨(Opt.nmV z.sur.data.toList z.giv.data.toList (wd F 2)).toArray⟩
theorem prsZ_bld {z : Z} (h : Good z) (F : Nat) (hF : 1 ≤ F ∧ F ≤ 3) (hf : z.fmt = F) :
    prsZ F (asm F (bldF F z)) = { z with sur := (Opt.splV (nmS z F)).1, giv := (Opt.splV (nmS z F)).2.1 } := by
  have hW := bld_wide F z
  have hg := fun i (hi : i < 15) => fld_asm F hF (bldF F z) hW i hi
  obtain ⟨w0, w1, w3, w4, w5, w6, w7, w8, w9, w10, w14, w2⟩ := wds F hF
  have hb := fun i (hi : i ≠ 3 ∧ i ≠ 4 ∧ i ≠ 11 ∧ i ≠ 12 ∧ i ≠ 14) => bldF_at (F := F) (z := z) hi
  have f0 : (⟨(tr (fld F (asm F (bldF F z)) 0)).toArray⟩ : ByteArray) = z.kind := by
    rw [hg 0 (by decide), hb 0 (by decide), map0, w0, tr_wide (by rw [bl_len]; have := letters_le h.kind; omega) (letters_last h.kind), mk_bl]
  have f1 : (⟨(tr (fld F (asm F (bldF F z)) 1)).toArray⟩ : ByteArray) = z.state := by
    rw [hg 1 (by decide), hb 1 (by decide), map1, w1, tr_wide (by rw [bl_len]; have := letters_le h.state; omega) (letters_last h.state), mk_bl]
  have f5 : (⟨(tr (fld F (asm F (bldF F z)) 5)).toArray⟩ : ByteArray) = z.nat := by
    rw [hg 5 (by decide), hb 5 (by decide), map5, w5, tr_wide (by rw [bl_len]; have := letters_le h.nat; omega) (letters_last h.nat), mk_bl]
  have f6 : (⟨(fld F (asm F (bldF F z)) 6).toArray⟩ : ByteArray) = z.birth := by rw [hg 6 (by decide), hb 6 (by decide), birth_f h w6, mk_bl]
  have f8 : (⟨(fld F (asm F (bldF F z)) 8).toArray⟩ : ByteArray) = z.sex := by rw [hg 8 (by decide), hb 8 (by decide), sex_f h w8, mk_bl]
  have f9 : (⟨(fld F (asm F (bldF F z)) 9).toArray⟩ : ByteArray) = z.exp := by rw [hg 9 (by decide), hb 9 (by decide), exp_f h w9, mk_bl]
  have f2 : (⟨(fld F (asm F (bldF F z)) 2).toArray⟩ : ByteArray) = nmS z F := by
    rw [hg 2 (by decide), hb 2 (by decide), names_f h (wd F 2) rfl w2]; rfl
  have f13 : (⟨(tr (fld F (asm F (bldF F z)) 13)).toArray⟩ : ByteArray) = z.sec := by
    rw [hg 13 (by decide), hb 13 (by decide), map13]
    have h3 : F = 1 ∨ F = 2 ∨ F = 3 := by omega
    rcases h3 with rfl | rfl | rfl
    · rw [show wd 1 13 = 11 from rfl, tr_wide (by rw [bl_len]; have := h.secLe; omega) (extra_last h.sec), mk_bl]
    · have h0 : z.sec.size = 0 := h.secF (by rw [hf]; decide)
      rw [show wd 2 13 = 0 from rfl, tr_wide (by rw [bl_len]; omega) (extra_last h.sec), mk_bl]
    · have h0 : z.sec.size = 0 := h.secF (by rw [hf]; decide)
      rw [show wd 3 13 = 0 from rfl, tr_wide (by rw [bl_len]; omega) (extra_last h.sec), mk_bl]
  unfold prsZ
  rw [f0, f1, f2, f5, f6, f8, f9, f13, nums_bld h F hF hf]
  dsimp only
  rw [mk_bl, mk_bl, ← hf]
theorem txts_bld (z : Z) : txts (bldK z) = bld z := by
  unfold txts bldK
  rw [List.map_map]
  exact List.map_id' _
theorem prsE_bld {z : Z} (h : Good z) (F : Nat) (hF : 1 ≤ F ∧ F ≤ 3) (hf : z.fmt = F) :
    prsE (asm F (bldF F z)) = (if (Opt.splV (nmS z F)).2.2.2 ≠ 0 then (Opt.splV (nmS z F)).2.2.2 else vldE { z with sur := (Opt.splV (nmS z F)).1, giv := (Opt.splV (nmS z F)).2.1 }) ∧ shape (asm F (bldF F z)) = F := by
  have hW := bld_wide F z
  have hS := asm_len F hF _ hW
  have hsh := shape_asm hF hS
  have hg := fld_asm F hF (bldF F z) hW 2 (by decide)
  have f2 : (⟨(fld F (asm F (bldF F z)) 2).toArray⟩ : ByteArray) = nmS z F := by
    rw [hg, bldF_at (by decide), names_f h (wd F 2) rfl (wds F hF).2.2.2.2.2.2.2.2.2.2.2]; rfl
  refine ⟨?_, hsh⟩
  unfold prsE
  rw [hsh, if_neg (by omega), if_neg (by rw [asm_valid (bldF_valid h F hF)]; decide), if_neg (by rw [chk_bld h F hF hf]; decide), if_neg (by rw [nums_bld h F hF hf]; exact fun hh => hh rfl), f2, prsZ_bld h F hF hf]
theorem nm_fld {z : Z} (h : Good z) (n : Nat) (h1 : 1 ≤ n ∧ n ≤ 64) : Opt.nmV z.sur.data.toList z.giv.data.toList n = Opt.fld z.sur.data.toList z.giv.data.toList n := by
  have hok : Opt.nmOk z.sur.data.toList z.giv.data.toList := ⟨h.sur, h.giv, fun e => h.sur0 (by rw [← Opt.size_len, e]; rfl)⟩
  unfold Opt.nmV Opt.fld
  rw [if_neg (by rintro (g | g | g); exact g hok; omega; omega)]
  rfl
/-- The names fit. -/
theorem spl_fit {z : Z} (h : Good z) (F : Nat) (hF : 1 ≤ F ∧ F ≤ 3) (hn : (Opt.nmL z.sur.data.toList z.giv.data.toList).length ≤ wd F 2) :
    (Opt.splV (nmS z F)).1 = z.sur ∧ (Opt.splV (nmS z F)).2.1 = z.giv ∧ (Opt.splV (nmS z F)).2.2.2 = 0 := by
  have w2 := (wds F hF).2.2.2.2.2.2.2.2.2.2.2
  have hne : z.sur.data.toList ≠ [] := fun e => h.sur0 (by rw [← Opt.size_len, e]; rfl)
  have hfl : (nmS z F).data.toList = Opt.fld z.sur.data.toList z.giv.data.toList (wd F 2) := nm_fld h (wd F 2) w2
  have hsz : (nmS z F).size = wd F 2 := by rw [← Opt.size_len, hfl, Opt.fld_length]
  obtain ⟨q1, q2⟩ := Opt.fld_fits h.sur hne h.giv (wd F 2) hn
  have := Opt.splV_some (s := nmS z F) (x := z.sur.data.toList) (y := z.giv.data.toList) (by omega) (by rw [hfl]; exact Opt.fld_chars h.sur h.giv _) (by rw [hfl, q1]; exact q2)
  rw [this]
  exact ⟨mk_bl _, mk_bl _, rfl⟩
/-- What Parse gives of the lines of a valid zone. -/
theorem ret_fit {z : Z} (h : Good z) (F : Nat) (hF : 1 ≤ F ∧ F ≤ 3) (hf : z.fmt = F) (hn : (Opt.nmL z.sur.data.toList z.giv.data.toList).length ≤ wd F 2) : prsE (txts (bldK z)) = 0 ∧ prsV (txts (bldK z)) = z := by
  obtain ⟨s1, s2, s3⟩ := spl_fit h F hF hn
  obtain ⟨p1, p2⟩ := prsE_bld h F hF hf
  have hb : txts (bldK z) = asm F (bldF F z) := by
    rw [txts_bld]; unfold bld; rw [hf]; rfl
  rw [s1, s2, s3, if_neg (fun hh => hh rfl), h.vld] at p1
  refine ⟨by rw [hb]; exact p1, ?_⟩
  unfold prsV
  rw [hb, if_pos p1, p2, prsZ_bld h F hF hf, s1, s2]
theorem ret_any {z : Z} (h : Good z) (F : Nat) (hF : 1 ≤ F ∧ F ≤ 3) (hf : z.fmt = F) (hE : prsE (txts (bldK z)) = 0) : ∃ a b, prsV (txts (bldK z)) = { z with sur := a, giv := b } := by
  obtain ⟨p1, p2⟩ := prsE_bld h F hF hf
  have hb : txts (bldK z) = asm F (bldF F z) := by
    rw [txts_bld]; unfold bld; rw [hf]; rfl
  refine ⟨(Opt.splV (nmS z F)).1, (Opt.splV (nmS z F)).2.1, ?_⟩
  unfold prsV
  rw [if_pos hE, hb, p2, prsZ_bld h F hF hf]
end Zn
end Go.Proofs.YtelngghecmkipaaGreatDoor
