/- Chapter 10: the walks of strings.ContainsRune over the rows of letters, of replacements and of replace. -/
import Derived.Test.YtdejgomljelnlaaDoorOptRep
import Derived.Test.YtdejgomljelnlaaDoorTake
import Derived.Deep.RegionLaw
namespace Go.Proofs.YtdejgomljelnlaaDoor
open Go.RowKit Go.Lib
namespace Opt
theorem rowOk_parts {l : List UInt8} (h : rowOk l = true) : pairsOk l = true ∧ l.length ≤ 1000 ∧ ∀ c : UInt8, c.toNat < 192 → l.count c ≤ 2 := by
  unfold rowOk at h
  simp only [Bool.and_eq_true, decide_eq_true_eq] at h
  refine ⟨h.1.1, h.1.2, fun c hc => ?_⟩
  by_cases hm : c ∈ l
  · have := List.all_eq_true.1 h.2 c hm
    simp only [Bool.or_eq_true, decide_eq_true_eq] at this
    omega
  · rw [List.count_eq_zero_of_not_mem hm]; omega
end Opt
set_option maxRecDepth 100000 in
set_option maxHeartbeats 4000000 in
theorem oindexOff (s : ByteArray) (c : Nat) (w : World) (h0 : 128 ≤ c) (hb : c ≠ 65533) (hv : Lib.validRune (c : Int) = false) :
    Calls Tryd.prog 74 #[.string s, .int .i32 c] w fun e w' => e = .returned (.int .i64 (-1)) ∧ w = w' := by
  have c1 : (0 : Int) ≤ (c : Int) := by omega
  have c2 : ¬ ((c : Int) < 128) := by omega
  have c3 : ((c : Int) == 65533) = false := by simp; omega
  go_enter Tryd.func74, Tryd.ntmps74
  go_wp2_with (go_at_call 88; refine (Tryd.utf8_ValidRune _ _).mono ?_; rintro e w' ⟨rfl, rfl⟩; rw [hv])
  try simp only [Exit.noGoto_ret]
  go_ret
  exact ⟨rfl, rfl⟩
/-- Whether a rune stands in a row of letters. -/
theorem oindexRow (s : ByteArray) (c : Nat) (w : World) (hs : Opt.rowOk s.data.toList = true) :
    Calls Tryd.prog 74 #[.string s, .int .i32 c] w fun e w' => ∃ z : Int, e = .returned (.int .i64 z) ∧ (0 ≤ z ↔ c ∈ Opt.two s.data.toList) ∧ Below w.heap.size w w' := by
  obtain ⟨g1, g2, g3⟩ := Opt.rowOk_parts hs
  have hl := Opt.two_le _ g1
  have hno : ∀ {z : Int}, z = -1 → c ∉ Opt.two s.data.toList → (0 ≤ z ↔ c ∈ Opt.two s.data.toList) := fun hz hn => ⟨fun h => absurd h (by omega), fun h => absurd h hn⟩
  by_cases h0 : c < 128
  · refine (Tryd.strings_IndexRune_ascii s (c : Int) w (by omega) (by omega)).mono fun e w' ⟨he, hw⟩ => ⟨_, he, hno ?_ (fun h => absurd (hl c h).1 (by omega)), hw ▸ Below.refl _ _⟩
    rcases Int.lt_or_le (Lib.indexByte s.data.toList ((c : Int)).toNat.toUInt8) 0 with h | h
    · have := Lib.indexByte_ge s.data.toList ((c : Int)).toNat.toUInt8
      omega
    · exfalso
      obtain ⟨o, ho⟩ : ∃ o : Nat, Lib.indexByte s.data.toList ((c : Int)).toNat.toUInt8 = o := ⟨(Lib.indexByte s.data.toList ((c : Int)).toNat.toUInt8).toNat, by omega⟩
      have h1 := (Lib.indexByte_some ho).1
      have h2 := (Opt.pairs_byte _ g1 _ (List.mem_of_getElem? h1)).1
      have h3 : (((c : Int)).toNat.toUInt8).toNat = c := by simp; omega
      omega
  · by_cases hb : c = 65533
    · subst hb
      exact (oindexBad s w g1).mono fun e w' ⟨he, hw⟩ => ⟨_, he, hno rfl (fun h => absurd (hl _ h).2 (by omega)), hw⟩
    · by_cases hv : Lib.validRune (c : Int) = true
      · have hv' : c ≤ 1114111 ∧ ¬ (55296 ≤ c ∧ c ≤ 57343) := by
          unfold Lib.validRune at hv
          simp at hv
          omega
        refine (oindexRune s c w (by rw [← Opt.size_len]; exact g2) (by omega) hv'.1 hb hv'.2 g3).mono fun e w' ⟨z, he, hz, hw⟩ => ⟨z, he, hz.trans ?_, hw⟩
        by_cases h2 : c < 2048
        · exact Opt.two_at _ c g1 (by omega) h2
        · exact ⟨fun h => absurd h (Opt.long_at _ c g1 (by omega) hv'.1 hv'.2), fun h => absurd (hl _ h).2 (by omega)⟩
      · exact (oindexOff s c w (by omega) hb (by simpa using hv)).mono fun e w' ⟨he, hw⟩ => ⟨_, he, hno rfl (fun h => by
          have h4 := hl _ h
          apply hv
          unfold Lib.validRune
          simp
          omega), hw ▸ Below.refl _ _⟩
theorem ocontainsRow (s : ByteArray) (c : Nat) (w : World) (hs : Opt.rowOk s.data.toList = true) :
    Calls Tryd.prog 59 #[.string s, .int .i32 c] w fun e w' => e = .returned (.bool ((Opt.two s.data.toList).contains c)) ∧ Below w.heap.size w w' := by
  have HI := Lib.hid (oindexRow s c w hs)
  obtain ⟨q, hq⟩ : ∃ q, (Opt.two s.data.toList).contains c = q := ⟨_, rfl⟩
  have HQ := Lib.hid hq
  rw [hq]
  clear hq hs
  go_enter Tryd.func59, Tryd.ntmps59
  go_wp2_with (go_at_call 74; refine HI.out.mono ?_; rintro e w2 ⟨z, rfl, hz, hb⟩)
  go_ret
  refine ⟨ret_bool ?_, hb⟩
  rw [← HQ.out]
  by_cases h : c ∈ Opt.two s.data.toList
  · simp [h]
  · simp [h]
namespace Opt
/-- The cells of replacements. -/
noncomputable def capCells : Array Value := (capB.flatMap fun x => [Value.string ⟨x.1.toArray⟩, Value.string ⟨x.2.toArray⟩]).toArray
theorem flat2 {α β : Type} (f g : α → β) : ∀ (L : List α) (i : Nat), (L.flatMap fun x => [f x, g x])[2 * i]? = L[i]?.map f ∧ (L.flatMap fun x => [f x, g x])[2 * i + 1]? = L[i]?.map g
  | [], i => by simp
  | x :: r, 0 => by simp
  | x :: r, i + 1 => by
    have := flat2 f g r i
    rw [List.flatMap_cons, show 2 * (i + 1) = 2 * i + 2 by omega]
    exact this
def capS (i : Nat) : ByteArray := ⟨(capB.getD i ([], [])).1.toArray⟩
def capW (i : Nat) : ByteArray := ⟨(capB.getD i ([], [])).2.toArray⟩
theorem capCells_at (i : Nat) (h : i < 24) : capCells[2 * i]? = some (.string (capS i)) ∧ capCells[2 * i + 1]? = some (.string (capW i)) := by
  have hl : i < capB.length := h
  obtain ⟨h1, h2⟩ := flat2 (fun x : List UInt8 × List UInt8 => Value.string ⟨x.1.toArray⟩) (fun x => Value.string ⟨x.2.toArray⟩) capB i
  unfold capCells capS capW
  rw [List.getD_eq_getElem?_getD, List.getElem?_eq_getElem hl]
  rw [List.getElem?_eq_getElem hl] at h1 h2
  exact ⟨by rw [List.getElem?_toArray]; exact h1, by rw [List.getElem?_toArray]; exact h2⟩
end Opt
set_option maxRecDepth 100000 in
set_option maxHeartbeats 4000000 in
theorem oreplacements (w : World) : Calls Tryd.prog 58 #[] w fun e w' => e = .returned (.slice (some ⟨w.heap.size, 0, none⟩) 24 24) ∧ w' = w.alloc (.cells Opt.capCells 93) := by
  go_enter Tryd.func58, Tryd.ntmps58
  go_wp2_with fail
  go_ret
  exact ⟨rfl, rfl⟩
namespace Opt
/-- What replace gives: a text, and whether there is one. -/
def repS (r : Nat) : ByteArray := ⟨((rep r).getD []).toArray⟩
def repB (r : Nat) : Bool := (rep r).isSome
theorem enc_nat (r : Nat) (h : r < 128) : Utf8.encode (r : Int) = ⟨#[UInt8.ofNat r]⟩ := by
  have v : Utf8.valid (r : Int) = true := by simp [Utf8.valid]; omega
  simp [Utf8.encode, v, h]
theorem find_none {α : Type} {p : α → Bool} {d : α} : ∀ {L : List α}, (∀ i, i < L.length → p (L.getD i d) = false) → L.find? p = none := fun {L} h => by
  rw [List.find?_eq_none]
  intro x hx hp
  obtain ⟨i, hi, rfl⟩ := List.mem_iff_getElem.1 hx
  have := h i hi
  rw [List.getD_eq_getElem?_getD, List.getElem?_eq_getElem hi] at this
  simp at this
  rw [this] at hp
  cases hp
theorem find_at {α : Type} {p : α → Bool} {d : α} : ∀ {L : List α} (i : Nat), i < L.length → (∀ j, j < i → p (L.getD j d) = false) → p (L.getD i d) = true → L.find? p = some (L.getD i d)
  | [], i, h, _, _ => by simp at h
  | x :: r, 0, _, _, h => by
    rw [List.getD_cons_zero] at h ⊢
    rw [List.find?_cons, h]
  | x :: r, i + 1, hi, h0, h => by
    have hx := h0 0 (by omega)
    rw [List.getD_cons_zero] at hx
    rw [List.getD_cons_succ] at h ⊢
    rw [List.find?_cons, hx]
    exact find_at i (by simp at hi; omega) (fun j hj => by have := h0 (j + 1) (by omega); rwa [List.getD_cons_succ] at this) h
/-- Not among the first. -/
def plain (r : Nat) : Prop := ¬ (65 ≤ r ∧ r ≤ 90) ∧ ¬ (97 ≤ r ∧ r ≤ 122) ∧ r ≠ 223 ∧ r ≠ 305 ∧ r ≠ 304 ∧ r ≠ 39 ∧ r ≠ 44 ∧ r ≠ 46 ∧ r ≠ 32 ∧ r ≠ 45
theorem rep_plain {r : Nat} (h : plain r) : rep r = (capB.find? fun x => (two x.1).contains (toUpperU r).toNat).map (·.2) := by
  obtain ⟨h1, h2, h3, h4, h5, h6, h7, h8, h9, h10⟩ := h
  unfold rep
  rw [if_neg h1, if_neg h2, if_neg h3, if_neg (by omega), if_neg (by omega), if_neg (by omega)]
theorem capS_ok (i : Nat) (h : i < 24) : rowOk (capS i).data.toList = true := by
  have hl : i < capB.length := h
  have := List.all_eq_true.1 capB_ok _ (List.getElem_mem hl)
  simp only [Bool.and_eq_true] at this
  unfold capS
  rw [List.getD_eq_getElem?_getD, List.getElem?_eq_getElem hl]
  exact this.1
/-- Where unicode's table of cases lies. -/
def Cases (w : World) : Prop := CaseVar 6 caseA w
theorem Cases.below {w w' : World} (h : Cases w) (hb : Below w.heap.size w w') : Cases w' := CaseVar_below h hb
end Opt
set_option maxRecDepth 100000 in
set_option maxHeartbeats 4000000 in
theorem oreplaceR (r : Nat) (w : World) (hr : r ≤ 1114111) (hc : Opt.Cases w) :
    Calls Tryd.prog 41 #[.int .i32 r] w fun e w' => e = .returned (.tuple #[.string (Opt.repS r), .bool (Opt.repB r)]) ∧ Below w.heap.size w w' := by
  have hu := toUpperU_range r hr
  obtain ⟨u, hu2⟩ : ∃ u : Nat, toUpperU r = u := ⟨(toUpperU r).toNat, by omega⟩
  have hts := fun w' (h : Opt.Cases w') => Tryd.unicode_ToUpper_laid (r : Int) w' h
  rw [hu2] at hts
  have HTS := Lib.hid hts; have HC := Lib.hid hc; have HU := Lib.hid hu2
  clear hts hc hu hu2
  have key : ∀ (S : ByteArray) (x : List UInt8), Opt.rep r = some x → S = ⟨x.toArray⟩ → S = Opt.repS r ∧ true = Opt.repB r := fun S x e h => by unfold Opt.repS Opt.repB; rw [e, h]; exact ⟨rfl, rfl⟩
  have KEY := Lib.hid key
  clear key
  by_cases p3 : r = 223 ∨ r = 305 ∨ r = 304 ∨ r = 39 ∨ r = 44 ∨ r = 46 ∨ r = 32 ∨ r = 45
  · clear KEY HTS HC HU
    rcases p3 with rfl | rfl | rfl | rfl | rfl | rfl | rfl | rfl
    all_goals
      go_enter Tryd.func41, Tryd.ntmps41
      go_wp2_with fail
      go_ret2
      exact ⟨by kernel_rfl, Below.refl _ _⟩
  obtain ⟨S, hS⟩ : ∃ S, Opt.repS r = S := ⟨_, rfl⟩
  obtain ⟨Z, hZ⟩ : ∃ Z, Opt.repB r = Z := ⟨_, rfl⟩
  rw [hS, hZ]
  by_cases p1 : 65 ≤ r ∧ r ≤ 90
  · obtain ⟨e1, e2⟩ := KEY.out _ _ (by unfold Opt.rep; rw [if_pos p1]) (Opt.enc_nat r (by omega))
    rw [hS] at e1; rw [hZ] at e2
    subst e2
    have c1 : (65 : Int) ≤ (r : Int) := by omega
    have c2 : (r : Int) ≤ 90 := by omega
    clear hS hZ p1
    go_enter Tryd.func41, Tryd.ntmps41
    go_wp2_with fail
    go_ret2
    exact ⟨rfl, Below.refl _ _⟩
  by_cases p2 : 97 ≤ r ∧ r ≤ 122
  · obtain ⟨e1, e2⟩ := KEY.out (Utf8.encode ((r : Int) - 97 + 65)) _ (by unfold Opt.rep; rw [if_neg p1, if_pos p2]) (by rw [show (r : Int) - 97 + 65 = ((r - 32 : Nat) : Int) by omega]; exact Opt.enc_nat _ (by omega))
    rw [hS] at e1; rw [hZ] at e2
    subst e2
    have c1 : (65 : Int) ≤ (r : Int) := by omega
    have c2 : ¬ ((r : Int) ≤ 90) := by omega
    have c3 : (97 : Int) ≤ (r : Int) := by omega
    have c4 : (r : Int) ≤ 122 := by omega
    clear hS hZ p1 p2
    go_enter Tryd.func41, Tryd.ntmps41
    go_wp2_with fail
    go_ret2
    exact ⟨by first | rfl | (rw [e1]), Below.refl _ _⟩
  have hp : Opt.plain r := by unfold Opt.plain; omega
  have hf := Opt.rep_plain hp
  rw [HU.out] at hf
  simp only [Int.toNat_natCast] at hf
  have HF := Lib.hid hf; have HS := Lib.hid hS; have HZ := Lib.hid hZ
  have hx : r < 65 ∨ (90 < r ∧ r < 97) ∨ 122 < r := by omega
  have b1 : ((r : Int) == 223) = false := by simp; omega
  have b2 : ((r : Int) == 305) = false := by simp; omega
  have b3 : ((r : Int) == 304) = false := by simp; omega
  have b4 : ((r : Int) == 39) = false := by simp; omega
  have b5 : ((r : Int) == 44) = false := by simp; omega
  have b6 : ((r : Int) == 46) = false := by simp; omega
  have b7 : ((r : Int) == 32) = false := by simp; omega
  have b8 : ((r : Int) == 45) = false := by simp; omega
  clear hf hS hZ hp p1 p2 p3 KEY
  rcases hx with hx | hx | hx
  all_goals
    first
    | have f1 : ¬ ((65 : Int) ≤ (r : Int)) := by omega
      have f2 : ¬ ((97 : Int) ≤ (r : Int)) := by omega
      clear hx
    | have f1 : (65 : Int) ≤ (r : Int) := by omega
      have f2 : ¬ ((r : Int) ≤ 90) := by omega
      have f3 : ¬ ((97 : Int) ≤ (r : Int)) := by omega
      clear hx
    | have f1 : (65 : Int) ≤ (r : Int) := by omega
      have f2 : ¬ ((r : Int) ≤ 90) := by omega
      have f3 : (97 : Int) ≤ (r : Int) := by omega
      have f4 : ¬ ((r : Int) ≤ 122) := by omega
      clear hx
    go_enter Tryd.func41, Tryd.ntmps41
    go_wp2_with (go_at_call 58; refine (oreplacements _).mono ?_; rintro e w1 ⟨rfl, hw1⟩; have HW1 := Lib.hid hw1; clear hw1)
    have hw1 := HW1.out
    have hbw : Below w.heap.size w w1 := by rw [hw1]; exact (Below.refl _ w).alloc (Nat.le_refl _) _
    have hg1 : w1.heap[w.heap.size]? = some (.cells Opt.capCells 93) := by rw [hw1]; exact heap_alloc_new w _
    have hz1 : w1.heap.size = w.heap.size + 1 := by rw [hw1]; show (w.heap.push _).size = _; simp
    obtain ⟨g, hg⟩ : ∃ g, w.heap.size = g := ⟨_, rfl⟩
    rw [hg] at hg1 hz1 hbw
    rw [hg]
    have HBW := Lib.hid hbw; have HG1 := Lib.hid hg1; have HZ1 := Lib.hid hz1; have HG := Lib.hid hg
    have HC1 := Lib.hid (HC.out.below (by rw [hg]; exact hbw))
    clear hbw hg1 hz1 hg hw1 HW1
    go_loopw [48] (fun i wr => ∃ k : Nat, k ≤ 24 ∧ i = .int .i64 k ∧ (∀ j, j < k → (Opt.two (Opt.capS j).data.toList).contains u = false) ∧ Below w1.heap.size w1 wr) (fun i _ => 24 - (intOf i).toNat)
    case atStart => exact ⟨0, by omega, rfl, fun j h => absurd h (by omega), Below.refl _ _⟩
    case round =>
      obtain ⟨k, hk, rfl, hno, hb⟩ := hrel
      have HNO := Lib.hid hno; have HB := Lib.hid hb
      clear hno hb
      by_cases hlt : k < 24
      · obtain ⟨cs, cw⟩ := Opt.capCells_at k hlt
        have hgb : wr.heap[g]? = some (.cells Opt.capCells 93) := (HB.out.block g (by have := HZ1.out; omega)).trans HG1.out
        have d0 : wr.cell? ⟨g, k * 2, none⟩ = some (.string (Opt.capS k)) := by unfold World.cell?; rw [hgb]; simpa [Nat.mul_comm] using cs
        have d1 : wr.cell? ⟨g, k * 2 + 1, none⟩ = some (.string (Opt.capW k)) := by unfold World.cell?; rw [hgb]; simpa [Nat.mul_comm] using cw
        have hlt' : (k : Int) < 24 := by omega
        have hk0 : (0 : Int) ≤ (k : Int) := by omega
        have HOK := Lib.hid (Opt.capS_ok k hlt)
        have HSK := Lib.hid (show (Opt.capS k).data.toList = (Opt.capB.getD k ([], [])).1 from rfl)
        have HWK := Lib.hid (show Opt.capW k = ⟨(Opt.capB.getD k ([], [])).2.toArray⟩ from rfl)
        obtain ⟨X, hX⟩ : ∃ X, Opt.capS k = X := ⟨_, rfl⟩
        obtain ⟨Y, hY⟩ : ∃ Y, Opt.capW k = Y := ⟨_, rfl⟩
        rw [hX] at d0 HOK HSK
        rw [hY] at d1 HWK
        have HX := Lib.hid hX
        clear cs cw hgb hX hY
        go_upto_region 20 with fail
        clear d0 d1
        have y0 : (wr.alloc (.cells #[.string X, .string Y] 93)).cell? ⟨wr.heap.size, 0, none⟩ = some (.string X) := by
          have := heap_alloc_new wr (.cells #[.string X, .string Y] 93)
          unfold World.cell?; rw [this]; rfl
        have y1 : (wr.alloc (.cells #[.string X, .string Y] 93)).cell? ⟨wr.heap.size, 1, none⟩ = some (.string Y) := by
          have := heap_alloc_new wr (.cells #[.string X, .string Y] 93)
          unfold World.cell?; rw [this]; rfl
        have hby : Below w1.heap.size w1 (wr.alloc (.cells #[.string X, .string Y] 93)) := HB.out.alloc HB.out.size _
        have HCY := Lib.hid (HC1.out.below hby)
        obtain ⟨wy, hwy⟩ : ∃ wy, wr.alloc (.cells #[.string X, .string Y] 93) = wy := ⟨_, rfl⟩
        obtain ⟨x, hx⟩ : ∃ x, wr.heap.size = x := ⟨_, rfl⟩
        rw [hwy] at y0 y1 hby HCY
        rw [hx] at y0 y1
        have HBY := Lib.hid hby
        have HCK := Lib.hid (fun w' => ocontainsRow X u w' HOK.out)
        obtain ⟨q, hq⟩ : ∃ q, (Opt.two X.data.toList).contains u = q := ⟨_, rfl⟩
        rw [hq] at HCK
        have HQ := Lib.hid hq
        rw [hwy, hx]
        clear hq hwy hx hby HB
        (refine wp_region_held_drew (S := (fun Wq => Wq.cell? ⟨x, 0, none⟩ = some (.string X) ∧ Wq.cell? ⟨x, 1, none⟩ = some (.string Y) ∧ Below wy.heap.size wy Wq)) (by kernel_rfl) (show _ ∧ _ ∧ _ from ⟨y0, y1, (Below.refl _ wy).drew⟩) (fun hHeld => ?_))
        (refine tkJ 0 _ (h := ?_))
        (refine tkJ 1 _ (h := ?_))
        (refine tkJ 2 _ (h := ?_))
        (refine rdJ 3 (h := fun K hK => ?_); go_simp; go_at_call 60; refine (HTS.out _ (HCY.out.below hHeld.2.2)).mono ?_; rintro e wz ⟨rfl, qn, hqn⟩; have hb4 : Below wy.drew.heap.size wy.drew wz := (by rw [hqn]; exact below_drewN (Below.refl _ _) qn); have HQN := Lib.hid hqn; clear hqn; refine shK hK (held2 hHeld hb4) (h := fun hHeld => ?_); clear hK K)
        (refine rdJ 4 (h := fun K hK => ?_); go_simp; go_at_call 59; refine (HCK.out _).mono ?_; rintro e wv ⟨rfl, hb4⟩; refine shK hK (held2 hHeld hb4) (h := fun hHeld => ?_); clear hK K)
        (refine wpAnyH_done (by kernel_rfl) ?_ _)
        cases q with
        | true =>
          go_wp2_with fail
          go_ret2
          have hrq := Opt.find_at (p := fun x : List UInt8 × List UInt8 => (Opt.two x.1).contains u) (d := ([], [])) (L := Opt.capB) k hlt (fun j hj => HNO.out j hj) (by rw [← HSK.out]; exact HQ.out)
          have hrr : Opt.rep r = some (Opt.capB.getD k ([], [])).2 := by rw [HF.out, hrq]; rfl
          have e1 : Y = S := by rw [← HS.out, HWK.out]; unfold Opt.repS; rw [hrr]; rfl
          have e2 : true = Z := by rw [← HZ.out]; unfold Opt.repB; rw [hrr]; rfl
          subst e1
          subst e2
          refine ⟨rfl, ?_⟩
          rw [HG.out]
          exact HBW.out.trans ((HBY.out.trans (hHeld.2.2.mono HBY.out.size)).mono (by have := HZ1.out; omega))
        | false =>
          go_wp2_with fail
          go_roundw
          case rel =>
            refine ⟨k + 1, by omega, by go_num, fun j hj => ?_, HBY.out.trans (hHeld.2.2.mono HBY.out.size)⟩
            by_cases hjk : j < k
            · exact HNO.out j hjk
            · obtain rfl : j = k := by omega
              rw [HX.out]; exact HQ.out
          case measure => simp [intOf]; omega
      · have hlt' : ¬ ((k : Int) < 24) := by omega
        obtain rfl : k = 24 := by omega
        go_wp2_with fail
        go_ret2
        have hrr : Opt.rep r = none := by
          rw [HF.out, Opt.find_none (p := fun x : List UInt8 × List UInt8 => (Opt.two x.1).contains u) (d := ([], [])) (L := Opt.capB) (fun j hj => HNO.out j hj)]; rfl
        have e1 : (⟨#[]⟩ : ByteArray) = S := by rw [← HS.out]; unfold Opt.repS; rw [hrr]; rfl
        have e2 : false = Z := by rw [← HZ.out]; unfold Opt.repB; rw [hrr]; rfl
        subst e1
        subst e2
        refine ⟨rfl, ?_⟩
        rw [HG.out]
        exact HBW.out.trans (HB.out.mono (by have := HZ1.out; omega))
end Go.Proofs.YtdejgomljelnlaaDoor
