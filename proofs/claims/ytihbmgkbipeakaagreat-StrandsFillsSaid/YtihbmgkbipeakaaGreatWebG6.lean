/- Several texts in one: TermNrm, TermStrOf, TermParse, TermPar, TermPName. -/
import Derived.Test.YtihbmgkbipeakaaGreatWebG4
import Derived.Test.YtihbmgkbipeakaaGreatWebG5
import Derived.BigQuiet
import Derived.Deep.QuietTactic
import Derived.Deep.LoopGhost
namespace Go.Proofs.YtihbmgkbipeakaaGreat
open Go.RowKit

set_option maxRecDepth 100000 in
set_option maxHeartbeats 2000000 in
/-- Normal of a valid term is its normal form; else the zero term. -/
theorem onormal (t : T) (v : Value) (w : World) (ht : TermAt w v t) (hbk : t.bulk ≤ 1048576) :
    Calls Tryz.prog 76 #[v] w (RetT (if t.valid = true then t.norm else .mk 0 ⟨#[]⟩ []) w) := by
  have HV := Lib.hid (fun W hW r c hr hc => ovalid t v W hW hbk r c hr hc)
  have HA := Lib.hid (fun W hW (hs : t.shape = true) => oarr (t.bulk + 1) t v W (by omega) hW hbk hs)
  obtain ⟨q, hq⟩ : ∃ q, t.valid = q := ⟨_, rfl⟩
  have HSH := Lib.hid (fun (h : q = true) => show t.shape = true by rw [← hq] at h; exact (Bool.and_eq_true_iff.1 h).2)
  rw [hq] at HV ⊢
  clear hbk hq
  generalize t.norm = tn at *
  cases ht with
  | mk k s A cap ks U h1 h2 h3 h4 hA hU =>
    have HT := Lib.hid (TermAt.mk k s A cap ks U h1 h2 h3 h4 hA hU)
    obtain ⟨bx, by', hb1, hsz⟩ := box_two w (.int .i64 k) (.string s) (.slice A ks.length cap) (.int .i64 0) (.string ⟨#[]⟩) (.slice none 0 0)
    clear hA hU
    go_enter Tryz.func76, Tryz.ntmps76
    go_upto_region 1 with fail
    generalize (w.alloc (.cells #[.int .i64 k, .string s, .slice A ks.length cap] 29)).alloc (.cells #[.int .i64 0, .string ⟨#[]⟩, .slice none 0 0] 29) = w1 at bx by' hb1 hsz ⊢
    have HT1 := Lib.hid (HT.out.later hb1)
    obtain ⟨x0, x1, x2⟩ := bx.cells
    cases q
    · go_wp2_with fail
      refine (HV.out _ HT1.out false 76 rfl (.inr ⟨rfl, rfl⟩)).mono ?_; rintro e w2 ⟨rfl, hb2⟩
      have bz := by'.later hb2
      obtain ⟨y0, y1, y2⟩ := bz.cells
      obtain ⟨f0, f1, f2⟩ := bz.free
      have HB := Lib.hid (hb1.trans (hb2.mono hb1.size)); have HBZ := Lib.hid bz
      clear x0 x1 x2 hb2 bz
      go_wp2_with fail
      obtain ⟨d0, d1, d2⟩ := (box_set3 HBZ.out (.int .i64 0) (.string ⟨#[]⟩) (.slice none 0 0)).cells
      refine bodyPost_ret (v := .agg #[.int .i64 0, .string ⟨#[]⟩, .slice none 0 0]) (by simp [results, Tryz.results76, go_sem, d0, d1, d2]) rfl ?_
      exact ret_set3 (t := .mk 0 ⟨#[]⟩ []) (A := none) (cap := 0) _ _ _ HB.out (by omega) rfl rfl rfl (TermAt.mk 0 ⟨#[]⟩ none 0 [] (fun _ => (undef, undef, undef)) (by decide) (by decide) (Nat.le_refl _) (Nat.zero_le _) (.inl rfl) (fun i h => by simp at h))
    · go_wp2_with fail
      refine (HV.out _ HT1.out true 0 rfl (.inl ⟨rfl, rfl⟩)).mono ?_; rintro e w2 ⟨rfl, hb2⟩
      have y0 := cell_later hb2 x0; have y1 := cell_later hb2 x1; have y2 := cell_later hb2 x2
      have HB := Lib.hid (hb1.trans (hb2.mono hb1.size)); have HBY := Lib.hid (by'.later hb2)
      have HT2 := Lib.hid (HT1.out.later hb2)
      have hsz2 : w.heap.size + 2 ≤ w2.heap.size := by have := hb2.size; omega
      have HSZ := Lib.hid hsz2
      clear x0 x1 x2 hb2 hsz2 hsz
      go_wp2_with fail
      refine (HA.out _ HT2.out (HSH.out (by trivial))).mono ?_; rintro e w3 ⟨A3, C3, rfl, hti, hb3⟩
      have bz := HBY.out.later hb3
      obtain ⟨y0, y1, y2⟩ := bz.cells
      obtain ⟨f0, f1, f2⟩ := bz.free
      have HBZ := Lib.hid bz; have HB3 := Lib.hid (HB.out.trans (hb3.mono HB.out.size))
      have HTI := Lib.hid (hti.keep (w' := w3) (S' := from_ (w.heap.size + 1 + 1)) fun b hb _ => ⟨by have := of_decide_eq_true hb; have := HSZ.out; exact decide_eq_true (by omega), rfl⟩)
      clear hti hb3 bz
      go_wp2_with fail
      obtain ⟨d0, d1, d2⟩ := (box_set3 HBZ.out (.int .i64 tn.kind) (.string tn.name) (.slice A3 tn.kids.length C3)).cells
      refine bodyPost_ret (v := .agg #[.int .i64 tn.kind, .string tn.name, .slice A3 tn.kids.length C3]) (by simp [results, Tryz.results76, go_sem, d0, d1, d2]) rfl ?_
      exact ret_set3 _ _ _ HB3.out (by omega) rfl rfl rfl HTI.out

set_option maxRecDepth 100000 in
set_option maxHeartbeats 2000000 in
/-- Normal of a valid term is its normal form; else the zero term. -/
theorem rnormal (t : T) (v : Value) (w : World) (ht : TermAt w v t) (hbk : t.bulk ≤ 1048576) :
    Calls Tryz.prog 47 #[v] w (RetT (if t.valid = true then t.norm else .mk 0 ⟨#[]⟩ []) w) := by
  have HV := Lib.hid (fun W hW r c hr hc => rvalid t v W hW hbk r c hr hc)
  have HA := Lib.hid (fun W hW (_ : t.shape = true) => rord (t.bulk + 1) t v W (by omega) hW hbk )
  obtain ⟨q, hq⟩ : ∃ q, t.valid = q := ⟨_, rfl⟩
  have HSH := Lib.hid (fun (h : q = true) => show t.shape = true by rw [← hq] at h; exact (Bool.and_eq_true_iff.1 h).2)
  rw [hq] at HV ⊢
  clear hbk hq
  generalize t.norm = tn at *
  cases ht with
  | mk k s A cap ks U h1 h2 h3 h4 hA hU =>
    have HT := Lib.hid (TermAt.mk k s A cap ks U h1 h2 h3 h4 hA hU)
    obtain ⟨bx, by', hb1, hsz⟩ := box_two w (.int .i64 k) (.string s) (.slice A ks.length cap) (.int .i64 0) (.string ⟨#[]⟩) (.slice none 0 0)
    clear hA hU
    go_enter Tryz.func47, Tryz.ntmps47
    go_upto_region 1 with fail
    generalize (w.alloc (.cells #[.int .i64 k, .string s, .slice A ks.length cap] 29)).alloc (.cells #[.int .i64 0, .string ⟨#[]⟩, .slice none 0 0] 29) = w1 at bx by' hb1 hsz ⊢
    have HT1 := Lib.hid (HT.out.later hb1)
    obtain ⟨x0, x1, x2⟩ := bx.cells
    cases q
    · go_wp2_with fail
      refine (HV.out _ HT1.out false 76 rfl (.inr ⟨rfl, rfl⟩)).mono ?_; rintro e w2 ⟨rfl, hb2⟩
      have bz := by'.later hb2
      obtain ⟨y0, y1, y2⟩ := bz.cells
      obtain ⟨f0, f1, f2⟩ := bz.free
      have HB := Lib.hid (hb1.trans (hb2.mono hb1.size)); have HBZ := Lib.hid bz
      clear x0 x1 x2 hb2 bz
      go_wp2_with fail
      obtain ⟨d0, d1, d2⟩ := (box_set3 HBZ.out (.int .i64 0) (.string ⟨#[]⟩) (.slice none 0 0)).cells
      refine bodyPost_ret (v := .agg #[.int .i64 0, .string ⟨#[]⟩, .slice none 0 0]) (by simp [results, Tryz.results47, go_sem, d0, d1, d2]) rfl ?_
      exact ret_set3 (t := .mk 0 ⟨#[]⟩ []) (A := none) (cap := 0) _ _ _ HB.out (by omega) rfl rfl rfl (TermAt.mk 0 ⟨#[]⟩ none 0 [] (fun _ => (undef, undef, undef)) (by decide) (by decide) (Nat.le_refl _) (Nat.zero_le _) (.inl rfl) (fun i h => by simp at h))
    · go_wp2_with fail
      refine (HV.out _ HT1.out true 0 rfl (.inl ⟨rfl, rfl⟩)).mono ?_; rintro e w2 ⟨rfl, hb2⟩
      have y0 := cell_later hb2 x0; have y1 := cell_later hb2 x1; have y2 := cell_later hb2 x2
      have HB := Lib.hid (hb1.trans (hb2.mono hb1.size)); have HBY := Lib.hid (by'.later hb2)
      have HT2 := Lib.hid (HT1.out.later hb2)
      have hsz2 : w.heap.size + 2 ≤ w2.heap.size := by have := hb2.size; omega
      have HSZ := Lib.hid hsz2
      clear x0 x1 x2 hb2 hsz2 hsz
      go_wp2_with fail
      refine (HA.out _ HT2.out (HSH.out (by trivial))).mono ?_; rintro e w3 ⟨A3, C3, rfl, hti, hb3⟩
      have bz := HBY.out.later hb3
      obtain ⟨y0, y1, y2⟩ := bz.cells
      obtain ⟨f0, f1, f2⟩ := bz.free
      have HBZ := Lib.hid bz; have HB3 := Lib.hid (HB.out.trans (hb3.mono HB.out.size))
      have HTI := Lib.hid (hti.keep (w' := w3) (S' := from_ (w.heap.size + 1 + 1)) fun b hb _ => ⟨by have := of_decide_eq_true hb; have := HSZ.out; exact decide_eq_true (by omega), rfl⟩)
      clear hti hb3 bz
      go_wp2_with fail
      obtain ⟨d0, d1, d2⟩ := (box_set3 HBZ.out (.int .i64 tn.kind) (.string tn.name) (.slice A3 tn.kids.length C3)).cells
      refine bodyPost_ret (v := .agg #[.int .i64 tn.kind, .string tn.name, .slice A3 tn.kids.length C3]) (by simp [results, Tryz.results47, go_sem, d0, d1, d2]) rfl ?_
      exact ret_set3 _ _ _ HB3.out (by omega) rfl rfl rfl HTI.out
end Go.Proofs.YtihbmgkbipeakaaGreat

namespace Go.Proofs.YtihbmgkbipeakaaGreat
open Go.RowKit

/-- A text as a string. -/
def strOf (l : List UInt8) : ByteArray := ⟨l.toArray⟩
theorem strOf_size (l : List UInt8) : (strOf l).size = l.length := str_size l
theorem strOf_data (l : List UInt8) : (strOf l).data.toList = l := by simp [strOf]
end Go.Proofs.YtihbmgkbipeakaaGreat

namespace Go.Proofs.YtihbmgkbipeakaaGreat
open Go.RowKit

namespace T
/-- The next byte is c. -/
def now (l : List UInt8) (i : Nat) (c : UInt8) : Bool := l[i]? == some c
/-- Passing over a text: the place behind it, or the place of the first byte that differs. -/
def need (l : List UInt8) : List UInt8 → Nat → Except Nat Nat
  | [], i => .ok i
  | c :: cs, i => if now l i c = true then need l cs (i + 1) else .error i
/-- May the byte at i stand in a name that begins at fr? -/
def nameOk (l : List UInt8) (fr i : Nat) : Bool := low (l.getD i 0) || (decide (fr < i) && dig (l.getD i 0))
def nameRun (l : List UInt8) (fr : Nat) : Nat → Nat → Nat
  | 0, i => i
  | n + 1, i => if i < l.length ∧ nameOk l fr i = true then nameRun l fr n (i + 1) else i
def nameEnd (l : List UInt8) (i : Nat) : Nat := nameRun l i 16 i
def nameStr (l : List UInt8) (i j : Nat) : ByteArray := strOf ((l.drop i).take (j - i))
/-- What a word in front of a parenthesis means. -/
def fnKind (s : ByteArray) : Int := if s = ⟨#[104, 97, 115, 104]⟩ then 4 else if s = ⟨#[115, 101, 97, 108]⟩ then 5 else if s = ⟨#[115, 105, 103, 110]⟩ then 6 else if s = ⟨#[112, 111, 119, 101, 114]⟩ then 7 else 0
def fnKids (s : ByteArray) : Nat := if s = ⟨#[104, 97, 115, 104]⟩ then 1 else if s = ⟨#[115, 101, 97, 108]⟩ then 2 else if s = ⟨#[115, 105, 103, 110]⟩ then 2 else 0
/-- A term with kids that stand between two signs. -/
def close (l : List UInt8) (k : Int) (c : UInt8) : Option (Except Nat (List T × Nat)) → Option (Except Nat (T × Nat))
  | none => none
  | some (.error e) => some (.error e)
  | some (.ok (ks, j)) => match need l [c] j with
    | .error e => some (.error e)
    | .ok j' => some (.ok (.mk k ⟨#[]⟩ ks, j'))
/-- More kids behind a comma. -/
def more (t : T) : Option (Except Nat (List T × Nat)) → Option (Except Nat (List T × Nat))
  | none => none
  | some (.error e) => some (.error e)
  | some (.ok (ks, j)) => some (.ok (t :: ks, j))
mutual
def pterm (l : List UInt8) : Nat → Nat → Option (Except Nat (T × Nat))
  | 0, _ => none
  | f + 1, i =>
    if now l i 60 = true then close l 3 62 (pkids l f 2 0 (i + 1))
    else if now l i 63 = true then (if nameEnd l (i + 1) = i + 1 then some (.error (i + 1)) else some (.ok (.mk 2 (nameStr l (i + 1) (nameEnd l (i + 1))) [], nameEnd l (i + 1))))
    else if nameEnd l i = i then some (.error i)
    else if fnKind (nameStr l i (nameEnd l i)) = 0 ∨ now l (nameEnd l i) 40 = false then some (.ok (.mk 1 (nameStr l i (nameEnd l i)) [], nameEnd l i))
    else close l (fnKind (nameStr l i (nameEnd l i))) 41 (pkids l f (fnKids (nameStr l i (nameEnd l i))) 0 (nameEnd l i + 1))
def pkids (l : List UInt8) : Nat → Nat → Nat → Nat → Option (Except Nat (List T × Nat))
  | 0, _, _, _ => none
  | f + 1, n, c, i => match pterm l f i with
    | none => none
    | some (.error e) => some (.error e)
    | some (.ok (t, j)) =>
      if (0 < n ∧ c + 1 = n) ∨ (n = 0 ∧ now l j 44 = false) then some (.ok ([t], j))
      else match need l [44, 32] j with
        | .error e => some (.error e)
        | .ok j' => more t (pkids l f n (c + 1) j')
end
theorem now_lt {l : List UInt8} {i : Nat} {c : UInt8} (h : now l i c = true) : i < l.length := by
  unfold now at h
  rcases Nat.lt_or_ge i l.length with g | g
  · exact g
  · rw [List.getElem?_eq_none g] at h; cases h
theorem need_ok {l : List UInt8} : ∀ (q : List UInt8) (i j : Nat), need l q i = .ok j → j = i + q.length ∧ (q ≠ [] → j ≤ l.length)
  | [], i, j, h => by injection h with h; subst h; simp
  | c :: cs, i, j, h => by
    simp only [need] at h
    split at h
    · rename_i hn
      obtain ⟨h1, h2⟩ := need_ok cs (i + 1) j h
      refine ⟨by simp; omega, fun _ => ?_⟩
      have := now_lt hn
      cases cs with
      | nil => simp at h1; omega
      | cons d ds => exact h2 (by simp)
    · cases h
theorem nameRun_le (l : List UInt8) (fr : Nat) : ∀ n i, i ≤ nameRun l fr n i ∧ nameRun l fr n i ≤ i + n ∧ (i ≤ l.length → nameRun l fr n i ≤ l.length)
  | 0, i => by simp [nameRun]
  | n + 1, i => by
    simp only [nameRun]
    split
    · rename_i h
      obtain ⟨h1, h2, h3⟩ := nameRun_le l fr n (i + 1)
      exact ⟨by omega, by omega, fun _ => h3 (by omega)⟩
    · exact ⟨Nat.le_refl _, by omega, fun h => h⟩
theorem nameStr_size (l : List UInt8) (i j : Nat) (h : i ≤ j) (h' : j ≤ l.length) : (nameStr l i j).size = j - i := by
  unfold nameStr; rw [strOf_size, List.length_take, List.length_drop]; omega
theorem nameEnd_le (l : List UInt8) (i : Nat) : i ≤ nameEnd l i ∧ nameEnd l i ≤ i + 16 ∧ (i ≤ l.length → nameEnd l i ≤ l.length) := nameRun_le l i 16 i
theorem nameEnd_lt {l : List UInt8} {i : Nat} (h : nameEnd l i ≠ i) : nameEnd l i ≤ l.length := by
  obtain ⟨h1, h2, h3⟩ := nameEnd_le l i
  rcases Nat.le_total i l.length with g | g
  · exact h3 g
  · exfalso; apply h; unfold nameEnd nameRun; rw [if_neg (by omega)]
theorem close_ok {l : List UInt8} {k : Int} {c : UInt8} {r : Option (Except Nat (List T × Nat))} {t : T} {j : Nat} (h : close l k c r = some (.ok (t, j))) : ∃ ks j', r = some (.ok (ks, j')) ∧ need l [c] j' = .ok j ∧ t = .mk k ⟨#[]⟩ ks := by
  unfold close at h
  split at h
  · cases h
  · cases h
  · rename_i ks j'
    split at h
    · cases h
    · rename_i j'' hj
      simp only [Option.some.injEq, Except.ok.injEq, Prod.mk.injEq] at h
      obtain ⟨rfl, rfl⟩ := h
      exact ⟨ks, j', rfl, hj, rfl⟩
theorem more_ok {t : T} {r : Option (Except Nat (List T × Nat))} {ks : List T} {j : Nat} (h : more t r = some (.ok (ks, j))) : ∃ r', r = some (.ok (r', j)) ∧ ks = t :: r' := by
  unfold more at h
  split at h
  · cases h
  · cases h
  · simp only [Option.some.injEq, Except.ok.injEq, Prod.mk.injEq] at h
    obtain ⟨rfl, rfl⟩ := h
    exact ⟨_, rfl, rfl⟩
/-- How far a term goes, and how large it is at most. -/
theorem p_ok (l : List UInt8) : ∀ f, (∀ i t j, pterm l f i = some (.ok (t, j)) → i < j ∧ j ≤ l.length ∧ t.bulk ≤ 5 * (j - i)) ∧ (∀ n c i ks j, pkids l f n c i = some (.ok (ks, j)) → i < j ∧ j ≤ l.length ∧ bulkAll ks ≤ 5 * (j - i) ∧ ks ≠ [])
  | 0 => ⟨fun _ _ _ h => (by cases h), fun _ _ _ _ _ h => (by cases h)⟩
  | f + 1 => by
    obtain ⟨ih1, ih2⟩ := p_ok l f
    refine ⟨fun i t j h => ?_, fun n c i ks j h => ?_⟩
    · simp only [pterm] at h
      split at h
      · obtain ⟨ks, j', h1, h2, rfl⟩ := close_ok h
        obtain ⟨a1, a2, a3, _⟩ := ih2 _ _ _ _ _ h1
        obtain ⟨b1, b2⟩ := need_ok _ _ _ h2
        have := b2 (by simp)
        simp at b1
        refine ⟨by omega, this, ?_⟩
        simp only [bulk]; show 0 + 4 + _ ≤ _; omega
      · split at h
        · split at h
          · cases h
          · rename_i hne
            simp only [Option.some.injEq, Except.ok.injEq, Prod.mk.injEq] at h
            obtain ⟨rfl, rfl⟩ := h
            have h1 := nameEnd_le l (i + 1); have h2 := nameEnd_lt hne
            refine ⟨by omega, h2, ?_⟩
            simp only [bulk, bulkAll, nameStr_size l _ _ h1.1 h2]; omega
        · split at h
          · cases h
          · rename_i hne
            have h1 := nameEnd_le l i; have h2 := nameEnd_lt hne
            split at h
            · simp only [Option.some.injEq, Except.ok.injEq, Prod.mk.injEq] at h
              obtain ⟨rfl, rfl⟩ := h
              refine ⟨by omega, h2, ?_⟩
              simp only [bulk, bulkAll, nameStr_size l _ _ h1.1 h2]; omega
            · obtain ⟨ks, j', g1, g2, rfl⟩ := close_ok h
              obtain ⟨a1, a2, a3, _⟩ := ih2 _ _ _ _ _ g1
              obtain ⟨b1, b2⟩ := need_ok _ _ _ g2
              have := b2 (by simp)
              simp at b1
              refine ⟨by omega, this, ?_⟩
              simp only [bulk]; show 0 + 4 + _ ≤ _; omega
    · simp only [pkids] at h
      split at h
      · cases h
      · cases h
      · rename_i t j' ht
        obtain ⟨a1, a2, a3⟩ := ih1 _ _ _ ht
        split at h
        · simp only [Option.some.injEq, Except.ok.injEq, Prod.mk.injEq] at h
          obtain ⟨rfl, rfl⟩ := h
          refine ⟨a1, a2, by simp only [bulkAll]; omega, by simp⟩
        · split at h
          · cases h
          · rename_i j'' hn
            obtain ⟨r', h1, rfl⟩ := more_ok h
            obtain ⟨b1, b2⟩ := need_ok _ _ _ hn
            obtain ⟨c1, c2, c3, _⟩ := ih2 _ _ _ _ _ h1
            simp at b1
            refine ⟨by omega, c2, by simp only [bulkAll]; omega, by simp⟩
/-- There is fuel enough. -/
theorem p_some (l : List UInt8) : ∀ f, (∀ i, i ≤ l.length → 2 * (l.length - i) + 1 ≤ f → pterm l f i ≠ none) ∧ (∀ n c i, i ≤ l.length → 2 * (l.length - i) + 2 ≤ f → pkids l f n c i ≠ none)
  | 0 => ⟨fun i _ h => by omega, fun n c i _ h => by omega⟩
  | f + 1 => by
    obtain ⟨ih1, ih2⟩ := p_some l f
    have hclose : ∀ k c r, r ≠ none → close l k c r ≠ none := fun k c r hr => by
      unfold close; split
      · exact absurd rfl hr
      · simp
      · split <;> simp
    refine ⟨fun i hi hf => ?_, fun n c i hi hf => ?_⟩
    · simp only [pterm]
      split
      · rename_i h; have := now_lt h
        exact hclose _ _ _ (ih2 _ _ _ (by omega) (by omega))
      · split
        · split <;> simp
        · split
          · simp
          · rename_i hne
            have h1 := nameEnd_le l i
            split
            · simp
            · rename_i hk
              have := now_lt (show now l (nameEnd l i) 40 = true by rcases Bool.eq_false_or_eq_true (now l (nameEnd l i) 40) with h | h; exact h; exact absurd (.inr h) hk)
              exact hclose _ _ _ (ih2 _ _ _ (by omega) (by omega))
    · simp only [pkids]
      split
      · rename_i h; exact absurd h (ih1 i hi (by omega))
      · simp
      · rename_i t j ht
        obtain ⟨a1, a2, _⟩ := (p_ok l f).1 _ _ _ ht
        split
        · simp
        · split
          · simp
          · rename_i j' hn
            obtain ⟨b1, b2⟩ := need_ok _ _ _ hn
            have := b2 (by simp)
            simp at b1
            have h2 := ih2 n (c + 1) j' (by omega) (by omega)
            unfold more; split
            · rename_i h; exact absurd h h2
            · simp
            · simp
/-- Parse: the term, the place of the error, the error. -/
def parse (s : ByteArray) : T × Nat × Int :=
  if 1024 < s.size then (.mk 0 ⟨#[]⟩ [], 0, 72)
  else match pterm s.data.toList (2 * s.size + 1) 0 with
    | none => (.mk 0 ⟨#[]⟩ [], 0, 0)
    | some (.error e) => (.mk 0 ⟨#[]⟩ [], e, 71)
    | some (.ok (t, j)) => if j < s.size then (.mk 0 ⟨#[]⟩ [], j, 71) else if t.valid = true then (t, 0, 0) else (.mk 0 ⟨#[]⟩ [], 0, 76)
end T
end Go.Proofs.YtihbmgkbipeakaaGreat

namespace Go.Proofs.YtihbmgkbipeakaaGreat
open Go.RowKit

/-- A reader in memory: text, place, wrong. -/
def PBox (ty : TypeId) (w : World) (g : Nat) (s : ByteArray) (i : Nat) (b : Bool) : Prop := w.heap[g]? = some (.cells #[.string s, .int .i64 i, .bool b] ty (0, 0))
section
variable {ty : TypeId} {w w' : World} {g i : Nat} {s : ByteArray} {b : Bool}
theorem PBox.cells (h : PBox ty w g s i b) : w.cell? ⟨g, 0, none⟩ = some (.string s) ∧ w.cell? ⟨g, 1, none⟩ = some (.int .i64 i) ∧ w.cell? ⟨g, 2, none⟩ = some (.bool b) := by
  unfold PBox at h
  refine ⟨?_, ?_, ?_⟩ <;> simp [World.cell?, h]
theorem PBox.free (h : PBox ty w g s i b) : w.frozen? ⟨g, 0, none⟩ = false ∧ w.frozen? ⟨g, 1, none⟩ = false ∧ w.frozen? ⟨g, 2, none⟩ = false := by
  unfold PBox at h
  refine ⟨?_, ?_, ?_⟩ <;> simp [World.frozen?, h]
theorem PBox.lt (h : PBox ty w g s i b) : g < w.heap.size := (Array.getElem?_eq_some_iff.1 h).1
theorem PBox.set1 (h : PBox ty w g s i b) (j : Nat) (v : Int) (hv : v = j) : PBox ty (w.setCell ⟨g, 1, none⟩ (.int .i64 v)) g s j b := by
  subst hv; unfold PBox at *
  simp [World.setCell, Array.getElem?_modify, h]
theorem PBox.set2 (h : PBox ty w g s i b) (c : Bool) : PBox ty (w.setCell ⟨g, 2, none⟩ (.bool c)) g s i c := by
  unfold PBox at *
  simp [World.setCell, Array.getElem?_modify, h]
theorem PBox.later (h : PBox ty w g s i b) (hb : Below w.heap.size w w') : PBox ty w' g s i b := (hb.block g h.lt).trans h
theorem PBox.grown {row : Option Nat} (h : PBox ty w g s i b) (hg : w.grownBy w' row) (hr : row ≠ some g) : PBox ty w' g s i b := (hg.block g h.lt (fun e => hr e.symm)).trans h
theorem PBox.drewN (h : PBox ty w g s i b) (n : Nat) : PBox ty (w.drewN n) g s i b := h
end
theorem grown_refl (w : World) (row : Option Nat) : w.grownBy w row := ⟨rfl, rfl, rfl, Nat.le_refl _, fun _ _ _ => rfl⟩
theorem grown_drewN {w w' : World} {row : Option Nat} (h : w.grownBy w' row) (n : Nat) : w.grownBy (w'.drewN n) row := ⟨h.os, h.tape, h.output, h.size, h.block⟩
theorem grown_set {w w' : World} {g : Nat} (h : w.grownBy w' (some g)) (i : Nat) (v : Value) : w.grownBy (w'.setCell ⟨g, i, none⟩ v) (some g) :=
  ⟨h.os, h.tape, h.output, by rw [show (w'.setCell ⟨g, i, none⟩ v).heap.size = w'.heap.size by simp [World.setCell]]; exact h.size, fun k hk hn => by rw [Below.heap_setCell _ _ _ _ (fun e => hn (by rw [e]))]; exact h.block k hk hn⟩
/-- Where the reader stands behind a step. -/
def Stands (ty : TypeId) (w : World) (g : Nat) (s : ByteArray) : Except Nat Nat → Prop
  | .ok j => PBox ty w g s j false
  | .error j => PBox ty w g s j true
theorem T.now_at (s : ByteArray) (i : Nat) (h : i < s.size) (c : UInt8) : T.now s.data.toList i c = (s[i] == c) := by
  unfold T.now
  have hl : i < s.data.toList.length := by simpa using h
  rw [List.getElem?_eq_getElem hl]
  show (some s[i] == some c) = _
  rfl
theorem T.now_past (s : ByteArray) (i : Nat) (h : s.size ≤ i) (c : UInt8) : T.now s.data.toList i c = false := by
  unfold T.now; rw [List.getElem?_eq_none (by simpa using h)]; rfl
theorem u8_ne {a b : UInt8} (h : (a == b) = false) : ((a.toNat : Int) == (b.toNat : Int)) = false ∧ ((a.toNat : Int) != (b.toNat : Int)) = true := by
  have hne : a ≠ b := by rw [beq_eq_false_iff_ne] at h; exact h
  have : (a.toNat : Int) ≠ (b.toNat : Int) := fun e => hne (UInt8.toNat_inj.1 (by omega))
  exact ⟨by rw [beq_eq_false_iff_ne]; exact this, by rw [bne_iff_ne]; exact this⟩
theorem u8_eq {a b : UInt8} (h : (a == b) = true) : ((a.toNat : Int) == (b.toNat : Int)) = true ∧ ((a.toNat : Int) != (b.toNat : Int)) = false := by
  have := beq_iff_eq.1 h; subst this; exact ⟨beq_self_eq_true _, by simp⟩

set_option maxRecDepth 100000 in
set_option maxHeartbeats 1000000 in
/-- now, where nothing is wrong. -/
theorem onow (g i : Nat) (s : ByteArray) (c : UInt8) (w : World) (h : PBox 152 w g s i false) (hi : i ≤ 4096) (r : Bool) (hr : T.now s.data.toList i c = r) :
    Calls Tryz.prog 179 #[.pointer (some ⟨g, 0, none⟩), .int .u8 (c.toNat : Int)] w fun e w' => e = .returned (.bool r) ∧ ∃ n, w' = w.drewN n := by
  obtain ⟨x0, x1, x2⟩ := h.cells
  rcases Nat.lt_or_ge i s.size with hlt | hge
  · rw [T.now_at s i hlt] at hr
    have h1 : (i : Int) < (s.size : Int) := by omega
    have h2 : (0 : Int) ≤ (i : Int) := by omega
    have hv : ((s[i].toNat : Int) == (c.toNat : Int)) = r := by
      rcases Bool.eq_false_or_eq_true (s[i] == c) with e | e
      · rw [← hr, e]; exact (u8_eq e).1
      · rw [← hr, e]; exact (u8_ne e).1
    have HV := Lib.hid hv
    clear hr hv
    go_enter Tryz.func179, Tryz.ntmps179
    go_wp2_with fail
    go_quiet (fail)
    go_wp2_with fail
    go_ret
    exact ⟨ret_bool (by have := HV.out; simpa using this), _, rfl⟩
  · rw [T.now_past s i hge] at hr
    subst hr
    have h1 : decide ((i : Int) < (s.size : Int)) = false := decide_eq_false (by omega)
    have h2 : decide (i < s.size) = false := decide_eq_false (by omega)
    go_enter Tryz.func179, Tryz.ntmps179
    go_wp2_with fail
    go_quiet (fail)
    go_wp2_with fail
    go_ret
    exact ⟨rfl, _, rfl⟩
set_option maxRecDepth 100000 in
set_option maxHeartbeats 1000000 in
/-- now, where something is wrong. -/
theorem onow_wrong (g i : Nat) (s : ByteArray) (c : Int) (w : World) (h : PBox 152 w g s i true) :
    Calls Tryz.prog 179 #[.pointer (some ⟨g, 0, none⟩), .int .u8 c] w fun e w' => e = .returned (.bool false) ∧ ∃ n, w' = w.drewN n := by
  obtain ⟨x0, x1, x2⟩ := h.cells
  go_enter Tryz.func179, Tryz.ntmps179
  go_wp2_with fail
  go_quiet (fail)
  go_wp2_with fail
  go_ret
  exact ⟨rfl, _, rfl⟩

set_option maxRecDepth 100000 in
set_option maxHeartbeats 2000000 in
theorem oneed (g i : Nat) (s q : ByteArray) (w : World) (h : PBox 152 w g s i false) (_hi : i ≤ 4096) (hs : s.size ≤ 4096) (hq : q.size ≤ 16) :
    Calls Tryz.prog 180 #[.pointer (some ⟨g, 0, none⟩), .string q] w fun e w' => e = .returned (.tuple #[]) ∧ w.grownBy w' (some g) ∧ Stands 152 w' g s (T.need s.data.toList q.data.toList i) := by
  have HW := Lib.hid h; clear h
  go_enter Tryz.func180, Tryz.ntmps180
  go_wp2_with fail
  go_loopw [4] (fun v4 wr => ∃ k m : Nat, k ≤ q.size ∧ m ≤ i + k ∧ v4 = .int .i64 k ∧ T.need s.data.toList q.data.toList i = T.need s.data.toList (q.data.toList.drop k) m ∧ PBox 152 wr g s m false ∧ w.grownBy wr (some g)) (fun v4 _ => q.size - (intOf v4).toNat)
  case atStart => exact ⟨0, i, Nat.zero_le _, by omega, rfl, rfl, HW.out, grown_refl _ _⟩
  case round =>
    obtain ⟨k, m, hk, hm, rfl, hnd, hp, hg⟩ := hrel
    obtain ⟨x0, x1, x2⟩ := hp.cells
    obtain ⟨f0, f1, f2⟩ := hp.free
    have HND := Lib.hid hnd; have HP := Lib.hid hp; have HG := Lib.hid hg
    clear hnd hp hg
    by_cases hlt : k < q.size
    · have h1 : (k : Int) < (q.size : Int) := by omega
      have h1' : decide ((k : Int) < (q.size : Int)) = true := decide_eq_true h1
      have h1'' : decide (k < q.size) = true := decide_eq_true hlt
      have h2 : (0 : Int) ≤ (k : Int) := by omega
      have h3 : (0 : Int) ≤ (m : Int) := by omega
      have hdr : q.data.toList.drop k = q[k] :: q.data.toList.drop (k + 1) := by
        rw [List.drop_eq_getElem_cons (by simpa using hlt)]; rfl
      have hst : T.need s.data.toList q.data.toList i = if T.now s.data.toList m q[k] = true then T.need s.data.toList (q.data.toList.drop (k + 1)) (m + 1) else .error m := by rw [HND.out, hdr]; rfl
      have HST := Lib.hid hst
      clear hst hdr
      rcases Nat.lt_or_ge m s.size with hms | hms
      · have h4 : (m : Int) < (s.size : Int) := by omega
        have h4' : decide ((s.size : Int) ≤ (m : Int)) = false := decide_eq_false (by omega)
        have h4'' : decide (s.size ≤ m) = false := decide_eq_false (by omega)
        rcases Bool.eq_false_or_eq_true (s[m] == q[k]) with e | e
        · have HE := Lib.hid (show T.need s.data.toList q.data.toList i = T.need s.data.toList (q.data.toList.drop (k + 1)) (m + 1) by rw [HST.out, T.now_at s m hms, if_pos e])
          obtain ⟨e1, e2⟩ := u8_eq e
          have HLT := Lib.hid hlt
          clear e
          go_upto_region 3 with fail
          go_quiet (fail)
          go_wp2_with fail
          go_roundw
          case rel => exact ⟨k + 1, m + 1, HLT.out, by omega, by go_num, HE.out, (HP.out.drewN nq).set1 (m + 1) _ (by push_cast; rfl), grown_set (grown_drewN HG.out nq) _ _⟩
          case measure => have := HLT.out; simp [intOf]; omega
        · have HE := Lib.hid (show T.need s.data.toList q.data.toList i = .error m by rw [HST.out, T.now_at s m hms, if_neg (by rw [e]; decide)])
          obtain ⟨e1, e2⟩ := u8_ne e
          clear e
          go_upto_region 3 with fail
          go_quiet (fail)
          go_wp2_with fail
          refine bodyPost_ret (results_none rfl _ _ _) rfl ?_
          exact ⟨rfl, grown_set (grown_drewN HG.out nq) _ _, by rw [HE.out]; exact (HP.out.drewN nq).set2 true⟩
      · have h4 : (s.size : Int) ≤ (m : Int) := by omega
        have h4' : decide ((s.size : Int) ≤ (m : Int)) = true := decide_eq_true (by omega)
        have h4'' : decide (s.size ≤ m) = true := decide_eq_true (by omega)
        have HE := Lib.hid (show T.need s.data.toList q.data.toList i = .error m by rw [HST.out, T.now_past s m hms, if_neg (by decide)])
        go_upto_region 3 with fail
        go_quiet (fail)
        go_wp2_with fail
        refine bodyPost_ret (results_none rfl _ _ _) rfl ?_
        exact ⟨rfl, grown_set (grown_drewN HG.out nq) _ _, by rw [HE.out]; exact (HP.out.drewN nq).set2 true⟩
    · obtain rfl : k = q.size := by omega
      have HE := Lib.hid (show T.need s.data.toList q.data.toList i = .ok m by rw [HND.out, List.drop_of_length_le (by simp)]; rfl)
      clear hlt
      go_wp2_with fail
      go_end0
      exact ⟨rfl, HG.out, by rw [HE.out]; exact HP.out⟩
set_option maxRecDepth 100000 in
set_option maxHeartbeats 1000000 in
theorem oneed_wrong (g i : Nat) (s : ByteArray) (b0 : UInt8) (bs : List UInt8) (w : World) (h : PBox 152 w g s i true) :
    Calls Tryz.prog 180 #[.pointer (some ⟨g, 0, none⟩), .string ⟨(b0 :: bs).toArray⟩] w fun e w' => e = .returned (.tuple #[]) ∧ w = w' := by
  obtain ⟨x0, x1, x2⟩ := h.cells
  have hz : (⟨(b0 :: bs).toArray⟩ : ByteArray).size = bs.length + 1 := by rw [str_size]; rfl
  generalize (⟨(b0 :: bs).toArray⟩ : ByteArray) = q at hz ⊢
  have h1 : (0 : Int) < (q.size : Int) := by omega
  have h1' : decide ((0 : Int) < (q.size : Int)) = true := decide_eq_true h1
  have h1'' : decide (0 < q.size) = true := decide_eq_true (by omega)
  clear hz
  go_enter Tryz.func180, Tryz.ntmps180
  go_wp2_with fail
  refine wp_loop_rounds 1 ?_; rw [rounds_succ]
  go_wp2_with fail
  go_end0
  exact ⟨rfl, rfl⟩

set_option maxRecDepth 100000 in
set_option maxHeartbeats 2000000 in
theorem rneed (g i : Nat) (s q : ByteArray) (w : World) (h : PBox 133 w g s i false) (_hi : i ≤ 4096) (hs : s.size ≤ 4096) (hq : q.size ≤ 16) :
    Calls Tryz.prog 187 #[.pointer (some ⟨g, 0, none⟩), .string q] w fun e w' => e = .returned (.tuple #[]) ∧ w.grownBy w' (some g) ∧ Stands 133 w' g s (T.need s.data.toList q.data.toList i) := by
  have HW := Lib.hid h; clear h
  go_enter Tryz.func187, Tryz.ntmps187
  go_wp2_with fail
  go_loopw [4] (fun v4 wr => ∃ k m : Nat, k ≤ q.size ∧ m ≤ i + k ∧ v4 = .int .i64 k ∧ T.need s.data.toList q.data.toList i = T.need s.data.toList (q.data.toList.drop k) m ∧ PBox 133 wr g s m false ∧ w.grownBy wr (some g)) (fun v4 _ => q.size - (intOf v4).toNat)
  case atStart => exact ⟨0, i, Nat.zero_le _, by omega, rfl, rfl, HW.out, grown_refl _ _⟩
  case round =>
    obtain ⟨k, m, hk, hm, rfl, hnd, hp, hg⟩ := hrel
    obtain ⟨x0, x1, x2⟩ := hp.cells
    obtain ⟨f0, f1, f2⟩ := hp.free
    have HND := Lib.hid hnd; have HP := Lib.hid hp; have HG := Lib.hid hg
    clear hnd hp hg
    by_cases hlt : k < q.size
    · have h1 : (k : Int) < (q.size : Int) := by omega
      have h1' : decide ((k : Int) < (q.size : Int)) = true := decide_eq_true h1
      have h1'' : decide (k < q.size) = true := decide_eq_true hlt
      have h2 : (0 : Int) ≤ (k : Int) := by omega
      have h3 : (0 : Int) ≤ (m : Int) := by omega
      have hdr : q.data.toList.drop k = q[k] :: q.data.toList.drop (k + 1) := by
        rw [List.drop_eq_getElem_cons (by simpa using hlt)]; rfl
      have hst : T.need s.data.toList q.data.toList i = if T.now s.data.toList m q[k] = true then T.need s.data.toList (q.data.toList.drop (k + 1)) (m + 1) else .error m := by rw [HND.out, hdr]; rfl
      have HST := Lib.hid hst
      clear hst hdr
      rcases Nat.lt_or_ge m s.size with hms | hms
      · have h4 : (m : Int) < (s.size : Int) := by omega
        have h4' : decide ((s.size : Int) ≤ (m : Int)) = false := decide_eq_false (by omega)
        have h4'' : decide (s.size ≤ m) = false := decide_eq_false (by omega)
        rcases Bool.eq_false_or_eq_true (s[m] == q[k]) with e | e
        · have HE := Lib.hid (show T.need s.data.toList q.data.toList i = T.need s.data.toList (q.data.toList.drop (k + 1)) (m + 1) by rw [HST.out, T.now_at s m hms, if_pos e])
          obtain ⟨e1, e2⟩ := u8_eq e
          have HLT := Lib.hid hlt
          clear e
          go_upto_region 3 with fail
          go_quiet (fail)
          go_wp2_with fail
          go_roundw
          case rel => exact ⟨k + 1, m + 1, HLT.out, by omega, by go_num, HE.out, (HP.out.drewN nq).set1 (m + 1) _ (by push_cast; rfl), grown_set (grown_drewN HG.out nq) _ _⟩
          case measure => have := HLT.out; simp [intOf]; omega
        · have HE := Lib.hid (show T.need s.data.toList q.data.toList i = .error m by rw [HST.out, T.now_at s m hms, if_neg (by rw [e]; decide)])
          obtain ⟨e1, e2⟩ := u8_ne e
          clear e
          go_upto_region 3 with fail
          go_quiet (fail)
          go_wp2_with fail
          refine bodyPost_ret (results_none rfl _ _ _) rfl ?_
          exact ⟨rfl, grown_set (grown_drewN HG.out nq) _ _, by rw [HE.out]; exact (HP.out.drewN nq).set2 true⟩
      · have h4 : (s.size : Int) ≤ (m : Int) := by omega
        have h4' : decide ((s.size : Int) ≤ (m : Int)) = true := decide_eq_true (by omega)
        have h4'' : decide (s.size ≤ m) = true := decide_eq_true (by omega)
        have HE := Lib.hid (show T.need s.data.toList q.data.toList i = .error m by rw [HST.out, T.now_past s m hms, if_neg (by decide)])
        go_upto_region 3 with fail
        go_quiet (fail)
        go_wp2_with fail
        refine bodyPost_ret (results_none rfl _ _ _) rfl ?_
        exact ⟨rfl, grown_set (grown_drewN HG.out nq) _ _, by rw [HE.out]; exact (HP.out.drewN nq).set2 true⟩
    · obtain rfl : k = q.size := by omega
      have HE := Lib.hid (show T.need s.data.toList q.data.toList i = .ok m by rw [HND.out, List.drop_of_length_le (by simp)]; rfl)
      clear hlt
      go_wp2_with fail
      go_end0
      exact ⟨rfl, HG.out, by rw [HE.out]; exact HP.out⟩
set_option maxRecDepth 100000 in
set_option maxHeartbeats 1000000 in
theorem rneed_wrong (g i : Nat) (s : ByteArray) (b0 : UInt8) (bs : List UInt8) (w : World) (h : PBox 133 w g s i true) :
    Calls Tryz.prog 187 #[.pointer (some ⟨g, 0, none⟩), .string ⟨(b0 :: bs).toArray⟩] w fun e w' => e = .returned (.tuple #[]) ∧ w = w' := by
  obtain ⟨x0, x1, x2⟩ := h.cells
  have hz : (⟨(b0 :: bs).toArray⟩ : ByteArray).size = bs.length + 1 := by rw [str_size]; rfl
  generalize (⟨(b0 :: bs).toArray⟩ : ByteArray) = q at hz ⊢
  have h1 : (0 : Int) < (q.size : Int) := by omega
  have h1' : decide ((0 : Int) < (q.size : Int)) = true := decide_eq_true h1
  have h1'' : decide (0 < q.size) = true := decide_eq_true (by omega)
  clear hz
  go_enter Tryz.func187, Tryz.ntmps187
  go_wp2_with fail
  refine wp_loop_rounds 1 ?_; rw [rounds_succ]
  go_wp2_with fail
  go_end0
  exact ⟨rfl, rfl⟩
end Go.Proofs.YtihbmgkbipeakaaGreat

namespace Go.Proofs.YtihbmgkbipeakaaGreat
open Go.RowKit

theorem T.extract_name (s : ByteArray) (i j : Nat) : s.extract i j = T.nameStr s.data.toList i j := by
  apply str_eq
  rw [Lib.extract_data, T.nameStr, strOf_data]
theorem T.nameOk_at (s : ByteArray) (i m : Nat) (h : m < s.size) : T.nameOk s.data.toList i m = (T.low s[m] || (decide (i < m) && T.dig s[m])) := by
  unfold T.nameOk; rw [T.getD_at s m h]
theorem T.dig_dec (c : UInt8) : (decide (48 ≤ (c.toNat : Int)) && decide ((c.toNat : Int) ≤ 57)) = T.dig c := rfl
/-- What name leaves. -/
def NameEnds (ty : TypeId) (g i : Nat) (s : ByteArray) (w : World) (e : Ending) (w' : World) : Prop :=
  w.grownBy w' (some g) ∧ ((T.nameEnd s.data.toList i = i ∧ e = .returned (.string ⟨#[]⟩) ∧ PBox ty w' g s i true) ∨
    (T.nameEnd s.data.toList i ≠ i ∧ e = .returned (.string (T.nameStr s.data.toList i (T.nameEnd s.data.toList i))) ∧ PBox ty w' g s (T.nameEnd s.data.toList i) false))

set_option maxRecDepth 100000 in
set_option maxHeartbeats 4000000 in
theorem opname (g i : Nat) (s : ByteArray) (w : World) (h : PBox 152 w g s i false) (hi : i ≤ s.size) (hs : s.size ≤ 4096) :
    Calls Tryz.prog 182 #[.pointer (some ⟨g, 0, none⟩)] w (NameEnds 152 g i s w) := by
  obtain ⟨x0, x1, x2⟩ := h.cells
  have HW := Lib.hid h; clear h
  go_enter Tryz.func182, Tryz.ntmps182
  go_wp2_with fail
  clear x0 x1 x2
  go_loopg [] 16 (fun n wr => ∃ m : Nat, n + m = 16 + i ∧ n ≤ 16 ∧ m ≤ s.size ∧ T.nameEnd s.data.toList i = T.nameRun s.data.toList i n m ∧ PBox 152 wr g s m false ∧ w.grownBy wr (some g))
  case atStart => exact ⟨i, by omega, Nat.le_refl _, hi, rfl, HW.out, grown_refl _ _⟩
  case round =>
    obtain ⟨m, hnm, hn16, hms, hend, hp, hg⟩ := hrel
    obtain ⟨x0, x1, x2⟩ := hp.cells
    obtain ⟨f0, f1, f2⟩ := hp.free
    obtain ⟨d, hd⟩ : ∃ d, m = i + d := ⟨m - i, by omega⟩
    have q1 : IntKind.i64.wrap ((m : Int) - (i : Int)) = (d : Int) := by rw [IntWalk.i64_in _ (by omega)]; omega
    have HP := Lib.hid hp; have HG := Lib.hid hg
    have hcase : ((gk = 0 ∨ s.size ≤ m ∨ T.nameOk s.data.toList i m = false) ∧ T.nameEnd s.data.toList i = m) ∨ (∃ n, gk = n + 1 ∧ m < s.size ∧ T.nameOk s.data.toList i m = true ∧ T.nameEnd s.data.toList i = T.nameRun s.data.toList i n (m + 1)) := by
      cases gk with
      | zero => left; exact ⟨.inl rfl, hend⟩
      | succ n =>
        simp only [T.nameRun] at hend
        split at hend
        · rename_i hh
          right; exact ⟨n, rfl, by have := hh.1; simpa using this, hh.2, hend⟩
        · rename_i hh
          left
          refine ⟨.inr ?_, hend⟩
          rcases Nat.lt_or_ge m s.size with g1 | g1
          · right
            rw [Bool.eq_false_iff]; intro hb; exact hh ⟨by simpa using g1, hb⟩
          · left; exact g1
    have HD := Lib.hid hd; have HNM := Lib.hid hnm; have HMS := Lib.hid hms
    have h3 : (0 : Int) ≤ (m : Int) := by omega
    clear hp hg hend hd
    rcases hcase with ⟨hstop, hE⟩ | ⟨n, hgn, hlt, hok, hE⟩
    · have HE := Lib.hid hE
      have hst : s.size ≤ m ∨ (m < s.size ∧ d = 16) ∨ (m < s.size ∧ d < 16 ∧ T.low s[m]! = false ∧ i = m) ∨ (m < s.size ∧ d < 16 ∧ T.low s[m]! = false ∧ i < m ∧ T.dig s[m]! = false) := by
        rcases Nat.lt_or_ge m s.size with g1 | g1
        · right
          have hbang : s[m]! = s[m] := getElem!_pos s m g1
          rcases hstop with h | h | h
          · left; have := HD.out; exact ⟨g1, by omega⟩
          · omega
          · rw [T.nameOk_at s i m g1, Bool.or_eq_false_iff] at h
            obtain ⟨a, b⟩ := h
            by_cases d16 : d = 16
            · left; exact ⟨g1, d16⟩
            · right
              have hd' := HD.out
              by_cases hz : i = m
              · left; exact ⟨g1, by omega, by rw [hbang]; exact a, hz⟩
              · right
                rw [decide_eq_true (show i < m by omega), Bool.true_and] at b
                exact ⟨g1, by omega, by rw [hbang]; exact a, by omega, by rw [hbang]; exact b⟩
        · left; exact g1
      clear hstop hE hnm hn16 hms
      have hfin : ∀ nq, PBox 152 (wr.drewN nq) g s m false ∧ w.grownBy (wr.drewN nq) (some g) := fun nq => ⟨HP.out.drewN nq, grown_drewN HG.out nq⟩
      have HFIN := Lib.hid hfin; clear hfin
      rcases hst with g1 | ⟨g1, g2⟩ | ⟨g1, g2, g3, g4⟩ | ⟨g1, g2, g3, g4, g5⟩
      · have a1 : (s.size : Int) ≤ (m : Int) := by omega
        have a2 : decide ((m : Int) < (s.size : Int)) = false := decide_eq_false (by omega)
        have a3 : decide (m < s.size) = false := decide_eq_false (by omega)
        go_upto_region 2 with fail
        go_quiet (fail)
        go_upto_region 4 with fail
        obtain ⟨hp9, hg9⟩ := HFIN.out nq
        generalize wr.drewN nq = w9 at hp9 hg9 ⊢
        obtain ⟨y0, y1, y2⟩ := hp9.cells
        obtain ⟨k0, k1, k2⟩ := hp9.free
        have HP9 := Lib.hid hp9; have HG9 := Lib.hid hg9
        clear hp9 hg9 x0 x1 x2 f0 f1 f2
        by_cases hmi : m = i
        · have e1 : ((m : Int) == (i : Int)) = true := by rw [hmi]; simp
          have HMI := Lib.hid hmi
          have hp8 := HP9.out.set2 true
          have hg8 := grown_set HG9.out 2 (.bool true)
          clear hmi
          go_upto_region 6 with fail
          generalize w9.setCell ⟨g, 2, none⟩ (.bool true) = w8 at hp8 hg8 ⊢
          obtain ⟨z0, z1, z2⟩ := hp8.cells
          have HP8 := Lib.hid hp8; have HG8 := Lib.hid hg8
          have l1 : (i : Int) ≤ (m : Int) := by have := HMI.out; omega
          have l2 : (m : Int) ≤ (s.size : Int) := by have := HMS.out; omega
          have l3 : (0 : Int) ≤ (i : Int) := by omega
          clear hp8 hg8 y0 y1 y2 k0 k1 k2
          go_quiet (fail)
          go_wp2_with fail
          go_ret
          refine ⟨grown_drewN HG8.out nq, .inl ⟨by rw [HE.out, HMI.out], ret_str (str_eq (by rw [HMI.out, Lib.extract_data]; simp)), by have := HP8.out.drewN nq; rw [HMI.out] at this; exact this⟩⟩
        · have e1 : ((m : Int) == (i : Int)) = false := by rw [beq_eq_false_iff_ne]; omega
          have HMI := Lib.hid hmi
          have l1 : (i : Int) ≤ (m : Int) := by have := HD.out; omega
          have l2 : (m : Int) ≤ (s.size : Int) := by have := HMS.out; omega
          have l3 : (0 : Int) ≤ (i : Int) := by omega
          clear hmi
          go_upto_region 6 with fail
          go_quiet (fail)
          go_wp2_with fail
          go_ret
          exact ⟨grown_drewN HG9.out nq, .inr ⟨by rw [HE.out]; exact HMI.out, ret_str (by rw [HE.out]; exact T.extract_name s i m), by rw [HE.out]; exact HP9.out.drewN nq⟩⟩
      · have a1 : (m : Int) < (s.size : Int) := by omega
        have a2 : decide ((d : Int) < 16) = false := decide_eq_false (by omega)
        have a3 : decide (d < 16) = false := decide_eq_false (by omega)
        go_upto_region 2 with fail
        go_quiet (fail)
        go_upto_region 4 with fail
        obtain ⟨hp9, hg9⟩ := HFIN.out nq
        generalize wr.drewN nq = w9 at hp9 hg9 ⊢
        obtain ⟨y0, y1, y2⟩ := hp9.cells
        obtain ⟨k0, k1, k2⟩ := hp9.free
        have HP9 := Lib.hid hp9; have HG9 := Lib.hid hg9
        clear hp9 hg9 x0 x1 x2 f0 f1 f2
        by_cases hmi : m = i
        · have e1 : ((m : Int) == (i : Int)) = true := by rw [hmi]; simp
          have HMI := Lib.hid hmi
          have hp8 := HP9.out.set2 true
          have hg8 := grown_set HG9.out 2 (.bool true)
          clear hmi
          go_upto_region 6 with fail
          generalize w9.setCell ⟨g, 2, none⟩ (.bool true) = w8 at hp8 hg8 ⊢
          obtain ⟨z0, z1, z2⟩ := hp8.cells
          have HP8 := Lib.hid hp8; have HG8 := Lib.hid hg8
          have l1 : (i : Int) ≤ (m : Int) := by have := HMI.out; omega
          have l2 : (m : Int) ≤ (s.size : Int) := by have := HMS.out; omega
          have l3 : (0 : Int) ≤ (i : Int) := by omega
          clear hp8 hg8 y0 y1 y2 k0 k1 k2
          go_quiet (fail)
          go_wp2_with fail
          go_ret
          refine ⟨grown_drewN HG8.out nq, .inl ⟨by rw [HE.out, HMI.out], ret_str (str_eq (by rw [HMI.out, Lib.extract_data]; simp)), by have := HP8.out.drewN nq; rw [HMI.out] at this; exact this⟩⟩
        · have e1 : ((m : Int) == (i : Int)) = false := by rw [beq_eq_false_iff_ne]; omega
          have HMI := Lib.hid hmi
          have l1 : (i : Int) ≤ (m : Int) := by have := HD.out; omega
          have l2 : (m : Int) ≤ (s.size : Int) := by have := HMS.out; omega
          have l3 : (0 : Int) ≤ (i : Int) := by omega
          clear hmi
          go_upto_region 6 with fail
          go_quiet (fail)
          go_wp2_with fail
          go_ret
          exact ⟨grown_drewN HG9.out nq, .inr ⟨by rw [HE.out]; exact HMI.out, ret_str (by rw [HE.out]; exact T.extract_name s i m), by rw [HE.out]; exact HP9.out.drewN nq⟩⟩
      · have a1 : (m : Int) < (s.size : Int) := by omega
        have a2 : (d : Int) < 16 := by omega
        have a4 : decide ((i : Int) < (m : Int)) = false := decide_eq_false (by omega)
        have a5 : decide (i < m) = false := decide_eq_false (by omega)
        have hb := u8_le s[m]
        rw [getElem!_pos s m g1] at g3
        have G3 := Lib.hid g3
        clear g3 g4
        go_upto_region 2 with fail
        go_quiet ((go_at_call 104; exact quiet_any (tletter _ _ hb.1 hb.2 false G3.out)))
        go_upto_region 4 with fail
        obtain ⟨hp9, hg9⟩ := HFIN.out nq
        generalize wr.drewN nq = w9 at hp9 hg9 ⊢
        obtain ⟨y0, y1, y2⟩ := hp9.cells
        obtain ⟨k0, k1, k2⟩ := hp9.free
        have HP9 := Lib.hid hp9; have HG9 := Lib.hid hg9
        clear hp9 hg9 x0 x1 x2 f0 f1 f2
        by_cases hmi : m = i
        · have e1 : ((m : Int) == (i : Int)) = true := by rw [hmi]; simp
          have HMI := Lib.hid hmi
          have hp8 := HP9.out.set2 true
          have hg8 := grown_set HG9.out 2 (.bool true)
          clear hmi
          go_upto_region 6 with fail
          generalize w9.setCell ⟨g, 2, none⟩ (.bool true) = w8 at hp8 hg8 ⊢
          obtain ⟨z0, z1, z2⟩ := hp8.cells
          have HP8 := Lib.hid hp8; have HG8 := Lib.hid hg8
          have l1 : (i : Int) ≤ (m : Int) := by have := HMI.out; omega
          have l2 : (m : Int) ≤ (s.size : Int) := by have := HMS.out; omega
          have l3 : (0 : Int) ≤ (i : Int) := by omega
          clear hp8 hg8 y0 y1 y2 k0 k1 k2
          go_quiet (fail)
          go_wp2_with fail
          go_ret
          refine ⟨grown_drewN HG8.out nq, .inl ⟨by rw [HE.out, HMI.out], ret_str (str_eq (by rw [HMI.out, Lib.extract_data]; simp)), by have := HP8.out.drewN nq; rw [HMI.out] at this; exact this⟩⟩
        · have e1 : ((m : Int) == (i : Int)) = false := by rw [beq_eq_false_iff_ne]; omega
          have HMI := Lib.hid hmi
          have l1 : (i : Int) ≤ (m : Int) := by have := HD.out; omega
          have l2 : (m : Int) ≤ (s.size : Int) := by have := HMS.out; omega
          have l3 : (0 : Int) ≤ (i : Int) := by omega
          clear hmi
          go_upto_region 6 with fail
          go_quiet (fail)
          go_wp2_with fail
          go_ret
          exact ⟨grown_drewN HG9.out nq, .inr ⟨by rw [HE.out]; exact HMI.out, ret_str (by rw [HE.out]; exact T.extract_name s i m), by rw [HE.out]; exact HP9.out.drewN nq⟩⟩
      · have a1 : (m : Int) < (s.size : Int) := by omega
        have a2 : (d : Int) < 16 := by omega
        have a4 : decide ((i : Int) < (m : Int)) = true := decide_eq_true (by omega)
        have a5 : decide (i < m) = true := decide_eq_true (by omega)
        have a6 : (i : Int) < (m : Int) := by omega
        have hb := u8_le s[m]
        rw [getElem!_pos s m g1] at g3 g5
        have G3 := Lib.hid g3; have G5 := Lib.hid g5
        clear g3 g5
        go_upto_region 2 with fail
        go_quiet (first | (go_at_call 104; exact quiet_any (tletter _ _ hb.1 hb.2 false G3.out)) | (go_at_call 105; exact quiet_any (tdigit _ _ hb.1 hb.2 false G5.out)))
        go_upto_region 4 with fail
        obtain ⟨hp9, hg9⟩ := HFIN.out nq
        generalize wr.drewN nq = w9 at hp9 hg9 ⊢
        obtain ⟨y0, y1, y2⟩ := hp9.cells
        obtain ⟨k0, k1, k2⟩ := hp9.free
        have HP9 := Lib.hid hp9; have HG9 := Lib.hid hg9
        clear hp9 hg9 x0 x1 x2 f0 f1 f2
        by_cases hmi : m = i
        · have e1 : ((m : Int) == (i : Int)) = true := by rw [hmi]; simp
          have HMI := Lib.hid hmi
          have hp8 := HP9.out.set2 true
          have hg8 := grown_set HG9.out 2 (.bool true)
          clear hmi
          go_upto_region 6 with fail
          generalize w9.setCell ⟨g, 2, none⟩ (.bool true) = w8 at hp8 hg8 ⊢
          obtain ⟨z0, z1, z2⟩ := hp8.cells
          have HP8 := Lib.hid hp8; have HG8 := Lib.hid hg8
          have l1 : (i : Int) ≤ (m : Int) := by have := HMI.out; omega
          have l2 : (m : Int) ≤ (s.size : Int) := by have := HMS.out; omega
          have l3 : (0 : Int) ≤ (i : Int) := by omega
          clear hp8 hg8 y0 y1 y2 k0 k1 k2
          go_quiet (fail)
          go_wp2_with fail
          go_ret
          refine ⟨grown_drewN HG8.out nq, .inl ⟨by rw [HE.out, HMI.out], ret_str (str_eq (by rw [HMI.out, Lib.extract_data]; simp)), by have := HP8.out.drewN nq; rw [HMI.out] at this; exact this⟩⟩
        · have e1 : ((m : Int) == (i : Int)) = false := by rw [beq_eq_false_iff_ne]; omega
          have HMI := Lib.hid hmi
          have l1 : (i : Int) ≤ (m : Int) := by have := HD.out; omega
          have l2 : (m : Int) ≤ (s.size : Int) := by have := HMS.out; omega
          have l3 : (0 : Int) ≤ (i : Int) := by omega
          clear hmi
          go_upto_region 6 with fail
          go_quiet (fail)
          go_wp2_with fail
          go_ret
          exact ⟨grown_drewN HG9.out nq, .inr ⟨by rw [HE.out]; exact HMI.out, ret_str (by rw [HE.out]; exact T.extract_name s i m), by rw [HE.out]; exact HP9.out.drewN nq⟩⟩
    · have HE := Lib.hid hE
      rw [T.nameOk_at s i m hlt] at hok
      have hd' := HD.out
      have a1 : (m : Int) < (s.size : Int) := by omega
      have a2 : (d : Int) < 16 := by omega
      have hb := u8_le s[m]
      have HLT := Lib.hid hlt
      have HGN := Lib.hid hgn
      have HN6 := Lib.hid hn16
      clear hE hd' hnm hn16 hms hgn
      have hl : T.low (s[m]'hlt) = true ∨ (T.low (s[m]'hlt) = false ∧ i < m ∧ T.dig (s[m]'hlt) = true) := by
        rcases Bool.eq_false_or_eq_true (T.low (s[m]'hlt)) with a | a
        · exact .inl a
        · right; rw [a, Bool.false_or, Bool.and_eq_true, decide_eq_true_eq] at hok; exact ⟨a, hok.1, hok.2⟩
      clear hok
      rcases hl with g3 | ⟨g3, hok1, hok2⟩
      · have G3 := Lib.hid g3
        clear g3
        go_upto_region 2 with fail
        go_quiet ((go_at_call 104; exact quiet_any (tletter _ _ hb.1 hb.2 true G3.out)))
        go_wp2_with fail
        go_roundg n
        case measure => have := HGN.out; omega
        case rel => exact ⟨m + 1, by have := HNM.out; have := HGN.out; omega, by have := HN6.out; have := HGN.out; omega, HLT.out, HE.out, (HP.out.drewN nq).set1 (m + 1) _ (by push_cast; rfl), grown_set (grown_drewN HG.out nq) _ _⟩
      · have a4 : decide ((i : Int) < (m : Int)) = true := decide_eq_true (by omega)
        have a5 : decide (i < m) = true := decide_eq_true (by omega)
        have a6 : (i : Int) < (m : Int) := by omega
        have G3 := Lib.hid g3; have G5 := Lib.hid hok2
        clear g3 hok2
        go_upto_region 2 with fail
        go_quiet (first | (go_at_call 104; exact quiet_any (tletter _ _ hb.1 hb.2 false G3.out)) | (go_at_call 105; exact quiet_any (tdigit _ _ hb.1 hb.2 true G5.out)))
        go_wp2_with fail
        go_roundg n
        case measure => have := HGN.out; omega
        case rel => exact ⟨m + 1, by have := HNM.out; have := HGN.out; omega, by have := HN6.out; have := HGN.out; omega, HLT.out, HE.out, (HP.out.drewN nq).set1 (m + 1) _ (by push_cast; rfl), grown_set (grown_drewN HG.out nq) _ _⟩
end Go.Proofs.YtihbmgkbipeakaaGreat
