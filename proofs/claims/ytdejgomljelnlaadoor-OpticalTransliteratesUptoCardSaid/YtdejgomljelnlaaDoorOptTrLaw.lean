/- Chapter 10: the walk of the statement on Transliterate (second form: the text is of bulk at most 1048576). -/
import Derived.Test.YtdejgomljelnlaaDoorOptTr2
import Derived.Test.YtdejgomljelnlaaDoorOptRtr2
import Derived.Test.YtdejgomljelnlaaDoorOptLaws
import Derived.Test.YtdejgomljelnlaaDoorRows
import Derived.Lib.LaidCase
import Derived.Lib.LaidU8
import Derived.Lib.LaidTab
import Derived.LaidSub
import Derived.MakeChecks
namespace Go.Proofs.YtdejgomljelnlaaDoor
open Go.RowKit Go.ChangeShapes Go.WideShapes Go.Lib Go.Shelf
/-- Two strings side by side, as a row holds them. -/
theorem two_strs {H : Type} {enc : TypeId × Value → H} {P : Program} {w : World} {base : Nat} {sp : Nat → Bool} {held : Bool} {fuel : Nat} {t e : TypeId} {cs : List Value} {a b : List UInt8} {p : List MemPlace}
    (ht : P.underlying t = some (.array 2 e)) (he : P.underlying e = some .string) (hce : P.cellsOf e = 1)
    (h : DataW.trod enc P w base sp held fuel t cs = some (.agg [.lit (.string a), .lit (.string b)], p)) : cs[0]? = some (.string ⟨a.toArray⟩) ∧ cs[1]? = some (.string ⟨b.toArray⟩) := by
  have key : ∀ (i : Nat) (z : List UInt8), i < 2 → ([DataW.lit (.string a), .lit (.string b)] : List (DataW H))[i]? = some (.lit (.string z)) → cs[i]? = some (.string ⟨z.toArray⟩) := by
    intro i z hi hz
    obtain ⟨f', d, q, hd, he'⟩ := array_elem ht h i hi
    rw [hz] at hd
    obtain rfl := Option.some.inj hd
    rw [hce] at he'
    obtain ⟨s, hc, hs, _⟩ := DataW.trod_string he he'
    have hs' : z = s.data.toList := by have := hs; simp at this; exact this.1
    have := congrArg (·[0]?) hc
    simp [List.getElem?_drop] at this
    rw [this, hs']
  exact ⟨key 0 a (by omega) rfl, key 1 b (by omega) rfl⟩
namespace Opt
theorem rows_of {W : World} (h : VarReads Tryd.prog W "traveldoc/traveldocref10.rows" Rows.laid_traveldoc_traveldocref10_rows) : RowsAt W := by
  obtain ⟨g, t, cs, fuel, p, hg, ht, hvar, hd⟩ := h
  have hg' : Tryd.prog.globalNamed "traveldoc/traveldocref10.rows" = some 3 := by kernel_rfl
  obtain rfl := Option.some.inj (hg'.symm.trans hg)
  obtain rfl := Option.some.inj ((by kernel_rfl : (Tryd.prog.globals[(3 : Nat)]?).map (·.type) = some 99).symm.trans ht)
  intro i hi
  have hc2 : Tryd.prog.cellsOf 54 = 2 := by kernel_rfl
  have hrow : ∃ ds, (Rows.laid_traveldoc_traveldocref10_rows : DataW Unit) = .agg ds ∧ ds[i]? = some (.agg [.lit (.string (rowX i).1), .lit (.string (rowX i).2)]) := by
    have e : (Rows.laid_traveldoc_traveldocref10_rows : DataW Unit) = .agg ((List.range 26).map fun i => .agg [.lit (.string (rowX i).1), .lit (.string (rowX i).2)]) := by kernel_rfl
    exact ⟨_, e, by simp [hi]⟩
  obtain ⟨ds, hds, hdi⟩ := hrow
  rw [hds] at hd
  obtain ⟨f', d, q, hd1, hd2⟩ := array_elem Tryd.underlying99 hd i hi
  rw [hdi] at hd1
  obtain rfl := Option.some.inj hd1
  rw [hc2] at hd2
  obtain ⟨k0, k1⟩ := two_strs Tryd.underlying54 Tryd.underlying9 (by kernel_rfl) hd2
  simp only [List.getElem?_take, List.getElem?_drop] at k0 k1
  simp at k0 k1
  have v0 := World.var?_cell hg hvar (i * 2)
  have v1 := World.var?_cell hg hvar (i * 2 + 1)
  rw [← Array.getElem?_toList] at v0 v1
  have k0' : cs.toList[i * 2]? = some (.string (rowS i)) := by rw [Array.getElem?_toList]; exact k0
  have k1' : cs.toList[i * 2 + 1]? = some (.string (rowW i)) := by rw [Array.getElem?_toList]; exact k1
  exact ⟨v0.trans k0', v1.trans k1'⟩
theorem first_is : (Rows.laid_unicode_utf8_first : DataW Unit) = firstData := by kernel_rfl
theorem accept_is : (Rows.laid_unicode_utf8_acceptRanges : DataW Unit) = acceptData := by kernel_rfl
theorem white_is : (Rows.laid_unicode_White_Space : DataW Unit) = whiteData := by kernel_rfl
theorem case_is : (Rows.laid_unicode_CaseRanges : DataW Unit) = caseData := by kernel_rfl
theorem space_is : (Rows.laid_strings_asciiSpace : DataW Unit) = Lib.tabData .u8 Lib.asciiSpaceTab := by kernel_rfl
/-- What the row says of the world. -/
theorem tabs_of {W : World} (hL : laidMetH Tryd.prog Rows.opticalTransliteratesUptoRow.laid W) : Tabs W ∧ RowsAt W := by
  rw [MakeChecks.laidMetH_plain _ _ _ (by kernel_rfl)] at hL
  have r0 := Lib.laidMet.reads hL (n := "traveldoc/traveldocref10.rows") (d := Rows.laid_traveldoc_traveldocref10_rows) (.head _)
  have r1 := Lib.laidMet.reads hL (n := "unicode/utf8.acceptRanges") (d := Rows.laid_unicode_utf8_acceptRanges) (.tail _ (.head _))
  have r2 := Lib.laidMet.reads hL (n := "unicode.White_Space") (d := Rows.laid_unicode_White_Space) (.tail _ (.tail _ (.head _)))
  have r4 := Lib.laidMet.reads hL (n := "unicode.CaseRanges") (d := Rows.laid_unicode_CaseRanges) (.tail _ (.tail _ (.tail _ (.tail _ (.head _)))))
  have r5 := Lib.laidMet.reads hL (n := "unicode/utf8.first") (d := Rows.laid_unicode_utf8_first) (.tail _ (.tail _ (.tail _ (.tail _ (.tail _ (.head _))))))
  have h3 := hL.filter fun x => x.1 == "strings.asciiSpace"
  rw [show (Rows.opticalTransliteratesUptoRow.laid.filter fun x => x.1 == "strings.asciiSpace") = [("strings.asciiSpace", Rows.laid_strings_asciiSpace)] by kernel_rfl] at h3
  rw [space_is] at h3
  have hgt : Tryd.prog.globalNamed "strings.asciiSpace" = some 2 := by kernel_rfl
  have ht3 := Lib.tabIs_of_head (P := Tryd.prog) (name := "strings.asciiSpace") (k := .u8) (zs := Lib.asciiSpaceTab) (rest := []) hgt (t := 86) (by kernel_rfl) Tryd.underlying86 Tryd.underlying5 (by kernel_rfl) (by kernel_rfl) h3
  rw [accept_is] at r1
  rw [white_is] at r2
  rw [case_is] at r4
  rw [first_is] at r5
  refine ⟨⟨?_, ?_, ht3, ?_⟩, rows_of r0⟩
  · exact caseVar_of_reads { Tryd.lays203 with } Tryd.lays203.t206 ⟨by kernel_rfl, by kernel_rfl, by kernel_rfl, by kernel_rfl, by kernel_rfl, by kernel_rfl⟩ r4
  · exact utf8Tabs_of_reads Tryd.lays260 ⟨by kernel_rfl, by kernel_rfl, by kernel_rfl, by kernel_rfl, by kernel_rfl, by kernel_rfl, by kernel_rfl⟩ r5 r1
  · exact whiteTab_of_reads { Tryd.lays157 with } ⟨by kernel_rfl, by kernel_rfl, by kernel_rfl, by kernel_rfl, by kernel_rfl, by kernel_rfl, by kernel_rfl, by kernel_rfl⟩ r2
theorem bulk1 {H : Type} {a : List UInt8} (h : Rows.uptoSmall H ([DataW.lit (.string a)] ++ []) = true) : a.length ≤ 1048576 := by
  have h1 := of_decide_eq_true h
  simp only [List.append_nil, Rows.uptoBulkAll, Rows.uptoBulk] at h1
  omega
theorem outs_len : ∀ (l : List Nat) (o : List UInt8), outs l = some o → o.length ≤ 4 * l.length
  | [], o, h => by simp [outs] at h; rw [h]; simp
  | r :: t, o, h => by
    unfold outs at h
    cases hr : rep r with
    | none => rw [hr] at h; cases h
    | some x =>
      rw [hr] at h
      cases ho : outs t with
      | none => rw [ho] at h; cases h
      | some y =>
        rw [ho] at h
        simp at h
        have h1 := outs_len t y ho
        have h2 := rep_len r x hr
        rw [← h]
        simp
        omega
theorem trL_len (l : List UInt8) : (trL l).length ≤ 4 * l.length + 1 := by
  unfold trL
  split
  · cases ho : outs (rns l) with
    | none => simp
    | some o =>
      have h1 := outs_len _ o ho
      have h2 := rns_length _ l (Nat.le_refl _)
      have h3 := (fields_len o).2
      simp only
      omega
  · simp
end Opt
set_option maxRecDepth 100000 in
set_option maxHeartbeats 1000000 in
theorem walkOpticalTransliterates {H : Type} {X : Prop} (w : World) (s : ByteArray) (_hs : s.size ≤ 140737488351232) (_hsz : X) (hk : Rows.uptoSmall H ([DataW.lit (.string s.data.toList)] ++ []) = true) (hL : laidMetH Tryd.prog Rows.opticalTransliteratesUptoRow.laid w) (hsh : w.ShapedOpen Tryd.prog) :
    Calls Tryd.prog 8 #[.string s] w fun e w' => e = .returned (.bool true) ∧ Below w.heap.size w w' := by
  have hw := Opt.lax_of hsh
  obtain ⟨hT, hR⟩ := Opt.tabs_of hL
  have hb := Opt.bulk1 hk
  rw [Opt.size_len] at hb
  have ht := Opt.tr_twice s.data.toList
  have hl := Opt.trL_len s.data.toList
  rw [Opt.size_len] at hl
  have c1 := fun w' (h : Opt.Tabs w') => otrans s w' (by omega) h
  have c2 := fun w' (h : Opt.RowsAt w') => rtrans s w' (by omega) h
  obtain ⟨L, hL2⟩ : ∃ L : ByteArray, ⟨(Opt.trL s.data.toList).toArray⟩ = L := ⟨_, rfl⟩
  obtain ⟨E, hE⟩ : ∃ E, Opt.trE s.data.toList = E := ⟨_, rfl⟩
  rw [hL2, hE] at c1 c2
  have hLl : L.data.toList = Opt.trL s.data.toList := by rw [← hL2]
  have hLz : L.size = (Opt.trL s.data.toList).length := by rw [← hL2]; exact str_size _
  have c3 := fun w' (h : Opt.Tabs w') => otrans L w' (by omega) h
  rw [hLl, ht.2.1, ht.2.2, hL2] at c3
  have c4 := fun w' => oname L w' (by unfold maxLen; omega)
  rw [hLl, show (32 : UInt8) = b8 32 by decide] at *
  have hW := ht.1
  rw [hW] at c4
  have hE0 : E = 0 ∨ E = 12 ∨ E = 1 := by
    rw [← hE]; unfold Opt.trE
    split
    · split
      · exact .inl rfl
      · exact .inr (.inl rfl)
    · exact .inr (.inr rfl)
  have C1 := Lib.hid c1; have C2 := Lib.hid c2; have C3 := Lib.hid c3; have C4 := Lib.hid c4
  have HT := Lib.hid hT; have HR := Lib.hid hR; have HW := Lib.hid hw
  clear c1 c2 c3 c4 hT hR hw hW hLl hLz hL2 ht hl hE hk hL hsh
  rcases hE0 with rfl | rfl | rfl
  all_goals
    go_enter Tryd.func8, Tryd.ntmps8
    go_wp2_with fail
    refine (C1.out _ HT.out).mono ?_; rintro e w1 ⟨rfl, hb1⟩
    have HB1 := Lib.hid hb1; clear hb1
    go_wp2_with fail
    refine (C2.out _ (HR.out.below HB1.out)).mono ?_; rintro e w2 ⟨rfl, hb2⟩
    have HB2 := Lib.hid (HB1.out.trans (hb2.mono HB1.out.size)); clear hb2
    go_wp2_with fail
    refine (awake_any _ (HW.out.below HB2.out)).mono ?_; rintro e w3 ⟨rfl, hb3⟩
    have HB3 := Lib.hid (HB2.out.trans (hb3.mono HB2.out.size)); clear hb3
    go_wp2_with fail
    refine (C3.out _ (HT.out.below HB3.out)).mono ?_; rintro e w4 ⟨rfl, hb4⟩
    have HB4 := Lib.hid (HB3.out.trans (hb4.mono HB3.out.size)); clear hb4
    go_wp2_with (go_at_call 18; refine (C4.out _).mono ?_; rintro e w5 ⟨rfl, rfl⟩)
    go_ret
    exact ⟨rfl, HB4.out⟩
end Go.Proofs.YtdejgomljelnlaaDoor
