/- Chapter 10: the walk of the reference's Transliterate. -/
import Derived.Test.YtdejgomljelnlaaDoorOptRtr
import Derived.Laws.Cover4
namespace Go.Proofs.YtdejgomljelnlaaDoor
open Go.RowKit Go.Lib
namespace Opt
theorem encode_all (r : Nat) (h : r ≤ 1114111) : (Utf8.encode (r : Int)).data.toList = encodeRune (r : Int) := by
  by_cases h0 : r < 128
  · rw [enc_nat r h0]
    unfold encodeRune
    rw [encodeRuneZ_one (by omega) (by omega)]
    rfl
  · by_cases h3 : 55296 ≤ r ∧ r ≤ 57343
    · have v : Utf8.valid (r : Int) = false := by simp [Utf8.valid]; omega
      unfold encodeRune
      rw [encodeRuneZ_bad (by omega)]
      simp [Utf8.encode, v, Utf8.runeError]
    · exact encode_list r (by omega) h h3
theorem runesBytes_eq : ∀ (l : List Nat) (s : ByteArray), (∀ r ∈ l, r ≤ 1114111) → ((l.map fun (r : Nat) => (r : Int)).foldl (fun x n => x ++ Utf8.encode n) s).data.toList = s.data.toList ++ encs l
  | [], s, _ => by simp [encs]
  | r :: t, s, h => by
    rw [List.map_cons, List.foldl_cons, runesBytes_eq t _ fun x hx => h x (by simp [hx])]
    rw [show (s ++ Utf8.encode (r : Int)).data.toList = s.data.toList ++ (Utf8.encode (r : Int)).data.toList by simp, encode_all r (h r (by simp))]
    simp [encs]
/-- The runes' bytes are the text just if it is valid. -/
theorem back_iff (s : ByteArray) : (runesBytes ((rns s.data.toList).map fun (r : Nat) => (r : Int)) = s) ↔ validD s.data.toList = true := by
  rw [valid_iff _ _ (Nat.le_refl _)]
  have h := runesBytes_eq (rns s.data.toList) ByteArray.empty (rns_le _ _ (Nat.le_refl _))
  have h2 : (runesBytes ((rns s.data.toList).map fun (r : Nat) => (r : Int))).data.toList = encs (rns s.data.toList) := by
    unfold runesBytes; rw [h]; rfl
  constructor
  · intro e; rw [← h2, e]
  · intro e; exact str_eq (h2.trans e)
/-- Where the reference's loop stands. -/
theorem refT_nil (o : List UInt8) (g : Bool) : refT [] o g = some o := rfl
theorem drop_cons {α : Type} (l : List α) (k : Nat) (h : k < l.length) : l.drop k = l[k] :: l.drop (k + 1) := List.drop_eq_getElem_cons h
theorem trL_ref (l : List UInt8) (hv : validD l = true) : (match refT (rns l) [] false with | some o => o | none => []) = trL l ∧ (match refT (rns l) [] false with | some _ => (0 : Int) | none => 12) = trE l := by
  unfold trL trE
  rw [if_pos hv, if_pos hv, refT_all]
  cases outs (rns l) with
  | none => exact ⟨rfl, rfl⟩
  | some o => exact ⟨rfl, rfl⟩
theorem str_neT {a b : ByteArray} (h : a ≠ b) : (a.toList == b.toList) = false := by
  rw [beq_eq_false_iff_ne]; intro e; apply h; rw [ByteArray.toList_eq, ByteArray.toList_eq] at e; exact str_eq e
theorem ltr_len (r : Nat) : (ltr r).length ≤ 4 := by
  unfold ltr
  split
  · simp
  · split
    · simp
    · cases hf : rowB.find? fun x => (two x.1).contains r with
      | none => simp
      | some x =>
        have h : (rowB.all fun x => decide (x.2.length ≤ 4)) = true := by kernel_rfl
        exact of_decide_eq_true (List.all_eq_true.1 h x (List.mem_of_find?_eq_some hf))
end Opt
set_option maxRecDepth 100000 in
set_option maxHeartbeats 4000000 in
theorem rtrans (s : ByteArray) (w : World) (hs : s.size ≤ 16777216) (hrow : Opt.RowsAt w) :
    Calls Tryd.prog 28 #[.string s] w fun e w' => e = .returned (.tuple #[.string ⟨(Opt.trL s.data.toList).toArray⟩, .int .i64 (Opt.trE s.data.toList)]) ∧ Below w.heap.size w w' := by
  obtain ⟨L, hL⟩ : ∃ L, (⟨(Opt.trL s.data.toList).toArray⟩ : ByteArray) = L := ⟨_, rfl⟩
  obtain ⟨E, hE⟩ : ∃ E, Opt.trE s.data.toList = E := ⟨_, rfl⟩
  rw [hL, hE]
  have hn : Conv.runesFrom s s.size 0 #[] = ((Opt.rns s.data.toList).map fun (r : Nat) => Value.int .i32 (r : Int)).toArray := by
    rw [Opt.runesFrom_eq, List.drop_zero]
    simp [Opt.rns]
  have hlen := Opt.rns_length _ s.data.toList (Nat.le_refl _)
  have hrl := Opt.rns_le _ s.data.toList (Nat.le_refl _)
  rw [Opt.size_len] at hlen
  have hbi := Opt.back_iff s
  have htr := Opt.trL_ref s.data.toList
  obtain ⟨RL, hRL⟩ : ∃ RL, Opt.rns s.data.toList = RL := ⟨_, rfl⟩
  rw [hRL] at hn hlen hrl hbi htr
  have hcz : (Conv.runesFrom s s.size 0 #[]).size = RL.length := by rw [hn]; simp
  obtain ⟨n, hnl⟩ : ∃ n, RL.length = n := ⟨_, rfl⟩
  rw [hnl] at hcz hlen
  have hcv : ∀ w', (convert 9 69 (.string s)).run Tryd.prog w' = .ok (.slice (some ⟨w'.heap.size, 0, none⟩) n (grownCap w' n 0 21)) (w'.drew.alloc (.cells (Conv.runesFrom s s.size 0 #[] ++ Array.replicate (grownCap w' n 0 21 - n) (.int .i32 0)) 21)) := fun w' => by
    have := run_runes_of_string (P := Tryd.prog) w' 9 69 21 s Tryd.underlying9 Tryd.underlying69 Tryd.underlying21 (by rw [hcz]; omega)
    rw [hcz] at this
    exact this
  have hcell : ∀ (w' : World) (i : Nat) (h : i < RL.length), (w'.drew.alloc (.cells (Conv.runesFrom s s.size 0 #[] ++ Array.replicate (grownCap w' n 0 21 - n) (.int .i32 0)) 21)).cell? ⟨w'.heap.size, i, none⟩ = some (.int .i32 (RL[i] : Int)) := fun w' i h => by
    have := heap_alloc_new w'.drew (.cells (Conv.runesFrom s s.size 0 #[] ++ Array.replicate (grownCap w' n 0 21 - n) (.int .i32 0)) 21)
    unfold World.cell?
    rw [show w'.heap.size = w'.drew.heap.size from rfl, this]
    simp only []
    rw [hn]
    simp [Array.getElem?_append, h]
  have HCL := Lib.hid hcell; have HL := Lib.hid hL; have HE := Lib.hid hE; have HR := Lib.hid hrow; have HRL := Lib.hid hrl; have HBI := Lib.hid hbi; have HTR := Lib.hid htr; have HN := Lib.hid hnl
  clear hcell hcz hn hL hE hrow hrl hbi htr hRL hnl
  go_enter Tryd.func28, Tryd.ntmps28
  go_upto_region 2 with fail
  have hcl : ∀ (i : Nat) (h : i < RL.length), ((w.alloc (.cells (Conv.runesFrom s s.size 0 #[] ++ Array.replicate (grownCap w n 0 21 - n) (.int .i32 0)) 21)).drew).cell? ⟨w.heap.size, i, none⟩ = some (.int .i32 (RL[i] : Int)) := fun i h => HCL.out w i h
  have hbl : Below w.heap.size w ((w.alloc (.cells (Conv.runesFrom s s.size 0 #[] ++ Array.replicate (grownCap w n 0 21 - n) (.int .i32 0)) 21)).drew) := ((Below.refl _ w).alloc (Nat.le_refl _) _).drew
  have hcap := grownCap_ge w n 0 21
  generalize (w.alloc (.cells (Conv.runesFrom s s.size 0 #[] ++ Array.replicate (grownCap w n 0 21 - n) (.int .i32 0)) 21)).drew = wl at hcl hbl ⊢
  obtain ⟨cap, hcap2⟩ : ∃ cap, grownCap w n 0 21 = cap := ⟨_, rfl⟩
  obtain ⟨g, hg⟩ : ∃ g, w.heap.size = g := ⟨_, rfl⟩
  rw [hg] at hcl ⊢
  rw [hcap2] at hcap ⊢
  have hcr : (convert 69 9 (.slice (some ⟨g, 0, none⟩) n cap)).run Tryd.prog wl = .ok (.string (runesBytes (RL.map fun (r : Nat) => (r : Int)))) wl := by
    have := run_convert_runes (P := Tryd.prog) wl 69 9 21 ⟨g, 0, none⟩ n cap (RL.map fun (r : Nat) => (r : Int)) (by rw [List.length_map, HN.out]; exact Nat.le_refl _) Tryd.underlying69 Tryd.underlying21 Tryd.underlying9 (fun j hj => by
      rw [List.length_map] at hj
      have := hcl j hj
      rw [List.getD_eq_getElem?_getD, List.getElem?_map, List.getElem?_eq_getElem hj]
      rw [show (⟨g, 0, none⟩ : Addr).add j = ⟨g, j, none⟩ by unfold Addr.add; by_cases h : j = 0 <;> simp [h]]
      simpa using this)
    rw [List.take_of_length_le (by rw [List.length_map, HN.out]; exact Nat.le_refl _)] at this
    exact this
  have HG := Lib.hid hg; have HBL := Lib.hid hbl; have HCL2 := Lib.hid hcl
  obtain ⟨SB, hSB⟩ : ∃ SB, runesBytes (RL.map fun (r : Nat) => (r : Int)) = SB := ⟨_, rfl⟩
  rw [hSB] at hcr HBI
  clear hSB hg hbl hcl HCL hcap2 hcv
  by_cases hv : Lib.validD s.data.toList = true
  · have hse : SB = s := HBI.out.2 hv
    rw [hse] at hcr
    have h2 : (s.toList != s.toList) = false := by simp
    obtain ⟨t1, t2⟩ := HTR.out hv
    have HT1 := Lib.hid t1; have HT2 := Lib.hid t2
    clear hse hv t1 t2 HBI HTR
    go_wp2_with fail
    clear hcr h2
    go_loopw [5, 6, 7, 8, 9] (fun o b i u8 u9 wr => ∃ (k : Nat) (O : List UInt8) (G : Bool), k ≤ n ∧ i = .int .i64 k ∧ o = .string ⟨O.toArray⟩ ∧ b = .bool G ∧ O.length ≤ 5 * k ∧ Opt.refT RL [] false = Opt.refT (RL.drop k) O G ∧ Below wl.heap.size wl wr) (fun _ _ i _ _ _ => n - (intOf i).toNat)
    case atStart => exact ⟨0, [], false, by omega, rfl, rfl, rfl, by simp, by simp, Below.refl _ _⟩
    case round =>
      obtain ⟨k, O, G, hk, rfl, rfl, rfl, hol, hre, hb⟩ := hrel
      have HRE := Lib.hid hre; have HB := Lib.hid hb
      have HBX := Lib.hid (HBL.out.trans (hb.mono HBL.out.size))
      clear hre hb
      by_cases hkn : k < n
      · have hkl : k < RL.length := by rw [HN.out]; exact hkn
        have hkn' : (k : Int) < (n : Int) := by omega
        have hk0 : (0 : Int) ≤ (k : Int) := by omega
        have d0 := HCL2.out k hkl
        replace d0 := (HB.out.cell (World.block_lt_of_cell? wl _ d0)).trans d0
        have hcb := HRL.out _ (List.getElem_mem hkl)
        have hdr := Opt.drop_cons RL k hkl
        obtain ⟨c, hc⟩ : ∃ c, RL[k] = c := ⟨_, rfl⟩
        rw [hc] at d0 hcb hdr
        have HDR := Lib.hid hdr; have HCB := Lib.hid hcb
        clear hc hdr hcb
        obtain ⟨OS, hOS⟩ : ∃ OS : ByteArray, ⟨O.toArray⟩ = OS := ⟨_, rfl⟩
        have hoz : OS.size = O.length := by rw [← hOS]; exact str_size O
        have hoe := str_empty (s := OS) (l := O) (by rw [← hOS]) rfl
        rw [hOS]
        have HOS := Lib.hid hOS; have HOZ := Lib.hid hoz
        clear hOS hoz
        by_cases q1 : c = 39 ∨ c = 44 ∨ c = 46
        · have hst : Opt.refT (c :: RL.drop (k + 1)) O G = Opt.refT (RL.drop (k + 1)) O G := by
            show (if c = 39 ∨ c = 44 ∨ c = 46 then _ else _) = _
            rw [if_pos q1]
          have HST := Lib.hid hst
          clear hst hoe
          rcases q1 with rfl | rfl | rfl
          all_goals
            go_wp2_with fail
            go_roundw
            case rel => exact ⟨k + 1, O, G, by omega, by go_num, by rw [HOS.out], rfl, by omega, by rw [HRE.out, HDR.out, HST.out], HB.out⟩
            case measure => simp [intOf]; omega
        · by_cases q2 : c = 32 ∨ c = 45
          · have hst : Opt.refT (c :: RL.drop (k + 1)) O G = Opt.refT (RL.drop (k + 1)) O true := by
              show (if c = 39 ∨ c = 44 ∨ c = 46 then _ else if c = 32 ∨ c = 45 then _ else _) = _
              rw [if_neg q1, if_pos q2]
            have HST := Lib.hid hst
            clear hst q1 hoe
            rcases q2 with rfl | rfl
            all_goals
              go_wp2_with fail
              go_roundw
              case rel => exact ⟨k + 1, O, true, by omega, by go_num, by rw [HOS.out], rfl, by omega, by rw [HRE.out, HDR.out, HST.out], HB.out⟩
              case measure => simp [intOf]; omega
          · have HLT := Lib.hid (rletter c wr HCB.out (HR.out.below HBX.out))
            have hll := Opt.ltr_len c
            have b4 : ((c : Int) == 39) = false := by simp; omega
            have b5 : ((c : Int) == 44) = false := by simp; omega
            have b6 : ((c : Int) == 46) = false := by simp; omega
            have b7 : ((c : Int) == 32) = false := by simp; omega
            have b8 : ((c : Int) == 45) = false := by simp; omega
            have hst : Opt.refT (c :: RL.drop (k + 1)) O G = if Opt.ltr c = [] then none else Opt.refT (RL.drop (k + 1)) ((if G && !O.isEmpty then O ++ [32] else O) ++ Opt.ltr c) false := by
              show (if c = 39 ∨ c = 44 ∨ c = 46 then _ else if c = 32 ∨ c = 45 then _ else _) = _
              rw [if_neg q1, if_neg q2]
            obtain ⟨X, hX⟩ : ∃ X, Opt.ltr c = X := ⟨_, rfl⟩
            rw [hX] at HLT hst hll
            obtain ⟨XS, hXS⟩ : ∃ XS : ByteArray, ⟨X.toArray⟩ = XS := ⟨_, rfl⟩
            rw [hXS] at HLT
            have hxz : XS.size = X.length := by rw [← hXS]; exact str_size X
            have hxe := str_empty (s := XS) (l := X) (by rw [← hXS]) rfl
            have HST := Lib.hid hst; have HXS := Lib.hid hXS; have HXZ := Lib.hid hxz
            clear hst hXS hxz hX q1 q2
            by_cases hxn : X = []
            · have HXN := Lib.hid hxn
              rw [hxn] at hxe
              obtain ⟨x1, x2⟩ := hxe
              replace x1 : XS.toList.isEmpty = true := x1
              clear x2 hxn hoe
              go_wp2_with (go_at_call 46; refine HLT.out.mono ?_; rintro e w3 ⟨rfl, hb3⟩)
              go_ret2
              have hfin : Opt.refT RL [] false = none := by rw [HRE.out, HDR.out, HST.out, if_pos HXN.out]
              have e1 : (⟨#[]⟩ : ByteArray) = L := by rw [← HL.out, ← HT1.out, hfin]
              have e2 : (12 : Int) = E := by rw [← HE.out, ← HT2.out, hfin]
              subst e1
              subst e2
              exact ⟨rfl, HBX.out.trans (hb3.mono HBX.out.size)⟩
            · have HXN := Lib.hid hxn
              have x1 : XS.toList.isEmpty = false := by rw [hxe.1]; cases X with
                | nil => exact absurd rfl hxn
                | cons _ _ => rfl
              clear hxe hxn
              have hoz := HOZ.out; have hxz := HXZ.out
              have hon : OS.toList.isEmpty = O.isEmpty := hoe.1
              have z1 : OS.size + XS.size ≤ 9223372036854775807 := by omega
              have hadd : OS ++ XS = ⟨(O ++ X).toArray⟩ := by rw [← HOS.out, ← HXS.out]; exact str_add O X
              have hsp : OS ++ ⟨#[32]⟩ = ⟨(O ++ [32]).toArray⟩ := by rw [← HOS.out]; exact str_add O [32]
              have HAD := Lib.hid hadd; have HSP := Lib.hid hsp
              have hcs : (G && !O.isEmpty) = false ∨ (G = true ∧ O.isEmpty = false) := by
                cases G
                · exact .inl rfl
                · cases O.isEmpty
                  · exact .inr ⟨rfl, rfl⟩
                  · exact .inl rfl
              rcases hcs with hcs | ⟨rfl, hoe2⟩
              · have HCS := Lib.hid hcs
                clear hcs hadd hsp hoe hoz hxz
                have hgo : G = false ∨ (G = true ∧ O.isEmpty = true) := by
                  have := HCS.out
                  cases G
                  · exact .inl rfl
                  · refine .inr ⟨rfl, ?_⟩
                    cases h : O.isEmpty with
                    | true => rfl
                    | false => rw [h] at this; cases this
                rcases hgo with rfl | ⟨rfl, ho2⟩
                all_goals
                  try rw [ho2] at hon
                  try clear ho2
                  go_wp2_with (go_at_call 46; refine HLT.out.mono ?_; rintro e w3 ⟨rfl, hb3⟩)
                  go_roundw
                  case rel => exact ⟨k + 1, O ++ X, false, by omega, by go_num, by rw [← HAD.out], rfl, by rw [List.length_append]; omega, by rw [HRE.out, HDR.out, HST.out, if_neg HXN.out, HCS.out]; rfl, HB.out.trans (hb3.mono HB.out.size)⟩
                  case measure => simp [intOf]; omega
              · rw [hoe2] at hon
                have HOE := Lib.hid hoe2
                obtain ⟨OT, hOT⟩ : ∃ OT : ByteArray, OS ++ ⟨#[32]⟩ = OT := ⟨_, rfl⟩
                have hoz2 : OT.size = O.length + 1 := by rw [← hOT, hsp]; rw [str_size]; simp
                have z0 : OS.size + (⟨#[32]⟩ : ByteArray).size ≤ 9223372036854775807 := by
                  have : (⟨#[32]⟩ : ByteArray).size = 1 := rfl
                  omega
                have z2 : OT.size + XS.size ≤ 9223372036854775807 := by omega
                have HAD2 := Lib.hid (show OT ++ XS = ⟨(O ++ [32] ++ X).toArray⟩ by rw [← hOT, hsp, ← HXS.out]; exact str_add _ X)
                clear hadd hsp hoe2 hoz hxz hoe hoz2
                go_wp2_with (go_at_call 46; refine HLT.out.mono ?_; rintro e w3 ⟨rfl, hb3⟩)
                go_roundw
                case rel => exact ⟨k + 1, O ++ [32] ++ X, false, by omega, by go_num, by rw [← HAD2.out], rfl, by rw [List.length_append, List.length_append]; simp; omega, by rw [HRE.out, HDR.out, HST.out, if_neg HXN.out, HOE.out]; rfl, HB.out.trans (hb3.mono HB.out.size)⟩
                case measure => simp [intOf]; omega
      · have hkn' : ¬ ((k : Int) < (n : Int)) := by omega
        obtain rfl : k = n := by omega
        go_wp2_with fail
        go_ret2
        have hfin : Opt.refT RL [] false = some O := by rw [HRE.out, List.drop_of_length_le (by rw [HN.out]; exact Nat.le_refl _)]; rfl
        have e1 : (⟨O.toArray⟩ : ByteArray) = L := by rw [← HL.out, ← HT1.out, hfin]
        have e2 : (0 : Int) = E := by rw [← HE.out, ← HT2.out, hfin]
        subst e1
        subst e2
        exact ⟨rfl, HBX.out⟩
  · have hne : SB ≠ s := fun e => hv (HBI.out.1 e)
    have h1 := Opt.str_neT hne
    have HV := Lib.hid hv
    clear hne hv
    go_wp2_with fail
    go_ret2
    have e1 : (⟨#[]⟩ : ByteArray) = L := by rw [← HL.out]; unfold Opt.trL; rw [if_neg HV.out]
    have e2 : (1 : Int) = E := by rw [← HE.out]; unfold Opt.trE; rw [if_neg HV.out]
    subst e1
    subst e2
    exact ⟨rfl, HBL.out⟩
end Go.Proofs.YtdejgomljelnlaaDoor
