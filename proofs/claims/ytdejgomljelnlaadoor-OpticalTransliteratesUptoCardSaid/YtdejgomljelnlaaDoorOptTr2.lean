/- Chapter 10: the walk of the program's Transliterate. -/
import Derived.Test.YtdejgomljelnlaaDoorOptTr
import Derived.Deep.LoopGhost
namespace Go.Proofs.YtdejgomljelnlaaDoor
open Go.RowKit Go.Shelf Go.Lib
set_option maxRecDepth 100000 in
set_option maxHeartbeats 4000000 in
theorem otrans (s : ByteArray) (w : World) (hs : s.size ≤ 16777216) (ht : Opt.Tabs w) :
    Calls Tryd.prog 27 #[.string s] w fun e w' => e = .returned (.tuple #[.string ⟨(Opt.trL s.data.toList).toArray⟩, .int .i64 (Opt.trE s.data.toList)]) ∧ Below w.heap.size w w' := by
  obtain ⟨L, hL⟩ : ∃ L, (⟨(Opt.trL s.data.toList).toArray⟩ : ByteArray) = L := ⟨_, rfl⟩
  obtain ⟨E, hE⟩ : ∃ E, Opt.trE s.data.toList = E := ⟨_, rfl⟩
  rw [hL, hE]
  have HL := Lib.hid hL; have HE := Lib.hid hE; have HT := Lib.hid ht
  have cV := Tryd.utf8_ValidString s w (by omega) ht.2.1
  obtain ⟨V, hV⟩ : ∃ V, Lib.validD s.data.toList = V := ⟨_, rfl⟩
  rw [hV] at cV
  have HV := Lib.hid hV; have CV := Lib.hid cV
  clear hL hE ht cV hV
  go_enter Tryd.func27, Tryd.ntmps27
  cases V with
  | false =>
    go_wp2_with (go_at_call 40; refine CV.out.mono ?_; rintro e w1 ⟨rfl, hb1⟩)
    go_ret2
    have e1 : (⟨#[]⟩ : ByteArray) = L := by rw [← HL.out]; unfold Opt.trL; rw [HV.out]; rfl
    have e2 : (1 : Int) = E := by rw [← HE.out]; unfold Opt.trE; rw [HV.out]; rfl
    subst e1
    subst e2
    exact ⟨rfl, hb1⟩
  | true =>
    go_wp2_with (go_at_call 40; refine CV.out.mono ?_; rintro e w1 ⟨rfl, hb1⟩)
    have HB1 := Lib.hid hb1
    obtain ⟨b, hb⟩ : ∃ b, w1.heap.size = b := ⟨_, rfl⟩
    have h0 := Lib.fresh_isBuilder 58 5 w1
    rw [hb] at h0
    have hz1 : (w1.alloc (.cells #[.pointer none, .slice none 0 0] 58)).heap.size = b + 1 := by rw [← hb]; show (w1.heap.push _).size = _; simp
    have hz2 : ((w1.alloc (.cells #[.pointer none, .slice none 0 0] 58)).iter s 0).heap.size = b + 2 := by
      show ((w1.alloc (.cells #[.pointer none, .slice none 0 0] 58)).heap.push _).size = _
      rw [Array.size_push, hz1]
    have hi0 := World.iter_heap (w1.alloc (.cells #[.pointer none, .slice none 0 0] 58)) s 0
    rw [hz1] at hi0
    have hbw : Below w.heap.size w ((w1.alloc (.cells #[.pointer none, .slice none 0 0] 58)).iter s 0) := (hb1.alloc hb1.size _).alloc (Nat.le_trans hb1.size (by rw [hz1, hb]; omega)) _
    have hbi : Lib.IsBuilder 58 5 b b [] ((w1.alloc (.cells #[.pointer none, .slice none 0 0] 58)).iter s 0) :=
      bld_keep h0 fun k hk => .inl (by
        show ((w1.alloc (.cells #[.pointer none, .slice none 0 0] 58)).heap.push _)[k]? = _
        rw [Array.getElem?_push_lt hk, Array.getElem?_eq_getElem hk])
    have hbB : w.heap.size ≤ b := by rw [← hb]; exact hb1.size
    have HBB := Lib.hid hbB; have HBI := Lib.hid hbi; have HI0 := Lib.hid hi0; have HBW := Lib.hid hbw
    clear h0 hi0 hbw hbi hb1 hbB hz2
    rw [hb]
    generalize (w1.alloc (.cells #[.pointer none, .slice none 0 0] 58)).iter s 0 = wi at HBI HI0 HBW ⊢
    clear hb hz1
    go_loopg [2, 3, 6, 7, 8] s.size (fun gf u2 u3 u6 u7 u8 wx => ∃ (pos : Nat) (acc : List UInt8), Lib.IsBuilder 58 5 b b (Lib.byteCells acc) wx ∧ wx.heap[b + 1]? = some (.stringIter s pos) ∧ Below w.heap.size w wx ∧
      pos ≤ s.size ∧ acc.length ≤ 4 * pos ∧ Opt.outs (Opt.rns s.data.toList) = (Opt.outs (Opt.rns (s.data.toList.drop pos))).map (acc ++ ·) ∧ s.size ≤ pos + gf)
    case atStart => exact ⟨0, [], HBI.out, HI0.out, HBW.out, by omega, by simp, by simp, by omega⟩
    case round =>
      obtain ⟨pos, acc, hbd, hit, hbw, hpz, hal, hou, hfu⟩ := hrel
      by_cases hps : pos < s.size
      · obtain ⟨g', rfl⟩ : ∃ g', gk = g' + 1 := ⟨gk - 1, by omega⟩
        have hnx : ∀ ty, (Instr.next (.pointer (some ⟨b + 1, 0, none⟩)) true ty).run Tryd.prog wr = _ := fun ty => Lib.run_next_any_at wr (b + 1) s pos ty hit hps
        have hne : s.data.toList.drop pos ≠ [] := fun e => by
          have := congrArg List.length e
          rw [List.length_drop, Opt.size_len] at this
          simp at this; omega
        have hst := Opt.outs_step _ hne
        have hwd := Lib.decodeL_width (s.data.toList.drop pos)
        have hle := Lib.decodeL_le (s.data.toList.drop pos) hne
        have hru := Lib.decodeL_rune (s.data.toList.drop pos)
        rw [List.length_drop, Opt.size_len] at hle
        rw [Lib.decodeL_drop] at hst hwd hle hru
        obtain ⟨R, hR⟩ : ∃ R, (Utf8.decode s pos).1 = R := ⟨_, rfl⟩
        obtain ⟨q, hq⟩ : ∃ q, (Utf8.decode s pos).2 = q := ⟨_, rfl⟩
        rw [hR, hq] at hnx hst
        rw [hR] at hru
        rw [hq] at hwd hle
        rw [List.drop_drop] at hst
        have hit2 := Lib.iterAt_heap wr (b + 1) s pos (pos + q) hit
        have hbw2 := Lib.below_iterAt hbw (k := b + 1) (by have := HBB.out; omega) s (pos + q)
        have hbd2 : Lib.IsBuilder 58 5 b b (Lib.byteCells acc) (wr.iterAt (b + 1) s (pos + q)) := bld_keep hbd fun k hk => by
          by_cases e : k = b + 1
          · rw [e]; exact .inr ⟨s, pos, hit⟩
          · exact .inl (Lib.iterAt_other wr (b + 1) k s (pos + q) e)
        obtain ⟨W, hWd⟩ : ∃ W, wr.iterAt (b + 1) s (pos + q) = W := ⟨_, rfl⟩
        rw [hWd] at hnx hit2 hbw2 hbd2
        have hltW : b + 1 < W.heap.size := (Array.getElem?_eq_some_iff.1 hit2).1
        have cS := oreplaceR R W hru (HT.out.below hbw2).1
        have CS := Lib.hid cS; have HIT := Lib.hid hit2; have HBW2 := Lib.hid hbw2; have HBD := Lib.hid hbd2; have HST := Lib.hid hst; have HOU := Lib.hid hou
        have HLT := Lib.hid hltW
        clear cS hit2 hbw2 hbd2 hst hou hR hq hWd hit hbd hbw hltW hne hru
        obtain ⟨X, hX⟩ : ∃ X, Opt.repS R = X := ⟨_, rfl⟩
        obtain ⟨Z, hZ⟩ : ∃ Z, Opt.repB R = Z := ⟨_, rfl⟩
        rw [hX, hZ] at CS
        have HX := Lib.hid hX; have HZ := Lib.hid hZ
        clear hX hZ
        cases Z with
        | false =>
          go_wp2_with (go_at_call 41; refine CS.out.mono ?_; rintro e w3 ⟨rfl, hb3⟩)
          go_ret2
          have hn : Opt.rep R = none := by
            have := HZ.out
            unfold Opt.repB at this
            exact Option.isNone_iff_eq_none.1 (by simpa using this)
          have ho : Opt.outs (Opt.rns s.data.toList) = none := by rw [HOU.out, HST.out, hn]; rfl
          have e1 : (⟨#[]⟩ : ByteArray) = L := by rw [← HL.out]; unfold Opt.trL; rw [HV.out, ho]; rfl
          have e2 : (12 : Int) = E := by rw [← HE.out]; unfold Opt.trE; rw [HV.out, ho]; rfl
          subst e1
          subst e2
          exact ⟨rfl, HBW2.out.trans (hb3.mono HBW2.out.size)⟩
        | true =>
          obtain ⟨x, hx⟩ : ∃ x, Opt.rep R = some x := by
            have := HZ.out
            unfold Opt.repB at this
            exact Option.isSome_iff_exists.1 this
          have hxX : X = ⟨x.toArray⟩ := by rw [← HX.out]; unfold Opt.repS; rw [hx]; rfl
          have hxl := Opt.rep_len R x hx
          have hXs : X.size = x.length := by rw [hxX]; exact str_size x
          have HXX := Lib.hid hxX; have HXR := Lib.hid hx; have HXS := Lib.hid hXs; have HXL := Lib.hid hxl
          clear hx hxX hXs hxl
          go_wp2_with (first
            | (go_at_call 41; refine CS.out.mono ?_; rintro e w3 ⟨rfl, hb3⟩; have HB3 := Lib.hid hb3; clear hb3)
            | (go_at_call 42; refine (owriteStringK b b (Lib.byteCells acc) X _ (bld_keep HBD.out fun k hk => .inl (HB3.out.block k hk)) (by rw [Lib.byteCells_length, HXS.out]; have := HXL.out; omega) (by have := HB3.out.size; have := HLT.out; omega)).mono ?_; rintro e w4 ⟨rfl, hbd4, hb4, hk4⟩))
          have hb34 : Below w.heap.size w w4 := (HBW2.out.trans (HB3.out.mono HBW2.out.size)).trans (hb4.mono HBB.out)
          have hit3 : w3.heap[b + 1]? = some (.stringIter s (pos + q)) := (HB3.out.block (b + 1) HLT.out).trans HIT.out
          have hit4 := hk4.iter hit3 (by omega)
          go_roundg g'
          case measure => omega
          case rel =>
            refine ⟨pos + q, acc ++ x, ?_, hit4, hb34, by omega, ?_, ?_, by omega⟩
            · rw [Lib.byteCells_append]
              have : Lib.strCells X = Lib.byteCells x := by rw [HXX.out]; rfl
              rw [← this]
              exact .inr hbd4
            · have := HXL.out
              rw [List.length_append]; omega
            · rw [HOU.out, HST.out, HXR.out]
              simp only [Option.map_map]
              congr 1
              funext o
              simp
      · have hnx : ∀ ty, (Instr.next (.pointer (some ⟨b + 1, 0, none⟩)) true ty).run Tryd.prog wr = _ := fun ty => Lib.run_next_end_at wr (b + 1) s pos ty hit hps
        have hdr : s.data.toList.drop pos = [] := List.drop_of_length_le (by rw [Opt.size_len]; omega)
        have hout : Opt.outs (Opt.rns s.data.toList) = some acc := by rw [hou, hdr]; simp [Opt.rns_nil, Opt.outs]
        have hasc : ∀ c ∈ acc, c.toNat < 128 := fun c hc => Opt.let_small (Opt.outs_let _ acc hout c hc)
        have hfd : Lib.fieldsD acc = Lib.fields acc := Lib.fieldsD_ascii acc hasc
        obtain ⟨hfl, hwl⟩ := Opt.fields_len acc
        have hsz : (⟨acc.toArray⟩ : ByteArray).size = acc.length := str_size acc
        obtain ⟨xs, hxs⟩ : ∃ xs : List ByteArray, (Lib.fields acc).map (fun x => (⟨x.toArray⟩ : ByteArray)) = xs := ⟨_, rfl⟩
        obtain ⟨n, hn⟩ : ∃ n, xs.length = n := ⟨_, rfl⟩
        have hfn : (Lib.fields acc).length = n := by rw [← hn, ← hxs, List.length_map]
        have hjl : xs.map (·.data.toList) = Lib.fields acc := by rw [← hxs, List.map_map]; exact List.map_id' _
        have hJ : Lib.join (xs.map (·.data.toList)) [32] = Opt.trL s.data.toList := by rw [hjl]; unfold Opt.trL; rw [HV.out, hout]; rfl
        have hjz : (Lib.join (xs.map (·.data.toList)) [32]).length ≤ 140737488355328 := by rw [hjl]; unfold Opt.J at hwl; omega
        have cF : ∀ w', Opt.Tabs w' → Calls Tryd.prog 44 #[.string ⟨acc.toArray⟩] w' fun e w'' => ∃ A, e = .returned (.slice (some ⟨A, 0, none⟩) n n) ∧ (∀ (j : Nat) x, xs[j]? = some x → w''.cell? ⟨A, 0 + j, none⟩ = some (.string x)) ∧ A < w''.heap.size ∧ Below w'.heap.size w' w'' := fun w' hT => by
          refine (Tryd.strings_Fields_any ⟨acc.toArray⟩ w' (by rw [hsz]; omega) hT.2.2.1 hT.2.2.2).mono ?_
          rintro e w'' ⟨A, rfl, hA, hown, hbb⟩
          have e0 : (⟨acc.toArray⟩ : ByteArray).data.toList = acc := rfl
          rw [e0, hfd, hfn] at hown ⊢
          refine ⟨A, rfl, fun j x hx => ?_, ?_, hbb⟩
          · have hj : j < n := by rw [← hn]; exact (List.getElem?_eq_some_iff.1 hx).1
            rw [Nat.zero_add, World.ownsRow.cellAt hown j (by omega), List.getElem?_map]
            rw [← hxs, List.getElem?_map] at hx
            cases hq : (Lib.fields acc)[j]? with
            | none => rw [hq] at hx; cases hx
            | some y => rw [hq] at hx; simp at hx; rw [← hx]; rfl
          · rcases hown.2 with ⟨h', _⟩ | ⟨g, cap, cur, h', _, hg, _⟩
            · cases h'
            · simp only [Value.slice.injEq, Option.some.injEq, Addr.mk.injEq, and_true, true_and] at h'
              rw [h'.1]; exact (Array.getElem?_eq_some_iff.1 hg).1
        have HOUT := Lib.hid hout; have HBD := Lib.hid hbd; have HBW2 := Lib.hid hbw; have HJ := Lib.hid hJ; have HJZ := Lib.hid hjz; have HN := Lib.hid hn
        have hbz : b ≤ wr.heap.size := by have := (Array.getElem?_eq_some_iff.1 hit).1; omega
        have HBZ := Lib.hid hbz
        have HFN := Lib.hid (show n ≤ 140737488355328 by omega)
        have HCF := Lib.hid cF
        clear hdr hout hasc hfd hbd hbw hou hwl hsz hit hbz hfl hxs hn hfn hjl hJ hjz cF hal
        go_wp2_with (first
          | (go_at_call 45; refine (Tryd.Builder_String_any b b acc _ HBD.out HBZ.out).mono ?_; rintro e w3 ⟨rfl, hb3⟩; have HB3 := Lib.hid (HBW2.out.trans (hb3.mono HBB.out)); clear hb3)
          | (go_at_call 44; refine (HCF.out _ (HT.out.below HB3.out)).mono ?_; rintro e w4 ⟨A, rfl, hcl, hAz, hb4⟩; have HCL := Lib.hid hcl; have HAZ := Lib.hid hAz; have HB4 := Lib.hid (HB3.out.trans (hb4.mono HB3.out.size)); clear hcl hAz hb4)
          | (go_at_call 43; rw [← HN.out]; refine (Tryd.strings_Join A 0 xs.length xs ⟨#[32]⟩ _ HCL.out HAZ.out (by rw [HN.out]; exact HFN.out) (Nat.le_refl _) HJZ.out).mono ?_; rintro e w5 ⟨rfl, hb5⟩))
        go_ret2
        have e1 : (⟨(Lib.join (xs.map (·.data.toList)) (⟨#[32]⟩ : ByteArray).data.toList).toArray⟩ : ByteArray) = L := by
          rw [← HL.out, ← HJ.out]
        have e2 : (0 : Int) = E := by rw [← HE.out]; unfold Opt.trE; rw [HV.out, HOUT.out]; rfl
        subst e1
        subst e2
        exact ⟨rfl, HB4.out.trans (hb5.mono HB4.out.size)⟩
end Go.Proofs.YtdejgomljelnlaaDoor
