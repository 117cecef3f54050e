/- Several texts in one: StrFls. -/
import Derived.Test.YtihbmgkbipeakaaGreatWebG21
import Derived.Test.YtihbmgkbipeakaaGreatWebG24
namespace Go.Proofs.YtihbmgkbipeakaaGreat
open Go.RowKit Go.ChangeShapes Go.WideShapes T

theorem ValsJ.use {j : Nat} {L : List Bd} (h : ValsJ j L) : properB L = true ∧ L.length ≤ j ∧ ∀ x ∈ L, x.t.bulk ≤ 240 := ⟨h.1, h.2.1, fun x hx => (h.2.2 x hx).1⟩
/-- The bindings of all three names. -/
theorem all_binds (w : World) {k1 k2 : Int} {s1 s2 : ByteArray} {t : T} {A : Option Addr} {c : Nat} (h1 : T.made0 0 k1 s1 = true) (h2 : T.made0 0 k2 s2 = true) (ht : TermAt w (.agg #[.int .i64 t.kind, .string t.name, .slice A t.kids.length c]) t) :
    BindsAt (w.alloc (.cells #[.string ⟨#[120]⟩, .int .i64 k1, .string s1, .slice none 0 0, .string ⟨#[121]⟩, .int .i64 k2, .string s2, .slice none 0 0, .string ⟨#[122]⟩, .int .i64 t.kind, .string t.name, .slice A t.kids.length c] 66)) (.slice (some ⟨w.heap.size, 0, none⟩) 3 3) [⟨nmB 0, .mk k1 s1 []⟩, ⟨nmB 1, .mk k2 s2 []⟩, ⟨nmB 2, t⟩] := by
  have hw := below_alloc1 w (.cells #[.string ⟨#[120]⟩, .int .i64 k1, .string s1, .slice none 0 0, .string ⟨#[121]⟩, .int .i64 k2, .string s2, .slice none 0 0, .string ⟨#[122]⟩, .int .i64 t.kind, .string t.name, .slice A t.kids.length c] 66)
  have hn := heap_alloc_new w (.cells #[.string ⟨#[120]⟩, .int .i64 k1, .string s1, .slice none 0 0, .string ⟨#[121]⟩, .int .i64 k2, .string s2, .slice none 0 0, .string ⟨#[122]⟩, .int .i64 t.kind, .string t.name, .slice A t.kids.length c] 66)
  have hat : ∀ (k : Int) (s : ByteArray), T.made0 0 k s = true → TermAt w (.agg #[.int .i64 (T.mk k s []).kind, .string (T.mk k s []).name, .slice none (T.mk k s []).kids.length 0]) (.mk k s []) := fun k s h => by
    have h3 := T.made0_facts h
    exact (atom_in (fun _ => true) w k s (by omega) (by have := h3.2.2; unfold maxLen; omega)).at
  have hb := (((BC.one (s := nmB 0) (hat k1 s1 h1) (nm_size 0)).append (BC.one (s := nmB 1) (hat k2 s2 h2) (nm_size 1))).append (BC.one (s := nmB 2) ht (nm_size 2))).later hw
  refine .inr ⟨w.heap.size, 0, 3, _, rfl, Nat.succ_pos _, Nat.le_refl _, by decide, hb, fun j u hu => ?_⟩
  unfold World.cell?
  rw [hn]
  have hu' : [Value.string ⟨#[120]⟩, .int .i64 k1, .string s1, .slice none 0 0, .string ⟨#[121]⟩, .int .i64 k2, .string s2, .slice none 0 0, .string ⟨#[122]⟩, .int .i64 t.kind, .string t.name, .slice A t.kids.length c][j]? = some u := hu
  simp only [Nat.zero_add]
  simpa using hu'
theorem all_vals {k1 k2 : Int} {s1 s2 : ByteArray} {t : T} (h1 : T.made0 0 k1 s1 = true) (h2 : T.made0 0 k2 s2 = true) (h3 : T.MadeN 0 2 t) : ValsJ 3 [⟨nmB 0, .mk k1 s1 []⟩, ⟨nmB 1, .mk k2 s2 []⟩, ⟨nmB 2, t⟩] :=
  ((ValsJ.nil.push (by decide) (by decide) (maden_atom h1)).push (by decide) (by decide) (maden_atom h2)).push (by decide) (by decide) h3

set_option maxRecDepth 100000 in
set_option maxHeartbeats 16000000 in
theorem str_fills (A1 A2 : Option Addr) (n1 n2 c1 c2 : Nat) (w : World) (hn1 : n1 ≤ maxLen) (hn2 : n2 ≤ maxLen) (hl1 : ListAt w A1 n1) (hl2 : ListAt w A2 n2) :
    Calls Tryz.prog 9 #[.slice A1 n1 c1, .slice A2 n2 c2] w fun e w' => e = .returned (.bool true) ∧ Below w.heap.size w w' := by
  have HL1 := Lib.hid (fun W => made_light A1 n1 c1 W hn1); have HL2 := Lib.hid (fun W => made_light A2 n2 c2 W hn2)
  obtain ⟨q1, hq1⟩ : ∃ q, decide (n1 ≤ 80) = q := ⟨_, rfl⟩
  obtain ⟨q2, hq2⟩ : ∃ q, decide (n2 ≤ 80) = q := ⟨_, rfl⟩
  rw [hq1] at HL1; rw [hq2] at HL2
  have HLA1 := Lib.hid hl1; have HLA2 := Lib.hid hl2
  clear hl1 hl2 hn1 hn2
  go_enter Tryz.func9, Tryz.ntmps9
  go_wp2_with fail
  refine (HL1.out _).mono ?_; rintro e w1 ⟨rfl, rfl⟩
  cases q1
  · go_wp2_with fail
    refine (awake42 _).mono ?_; rintro e w3 ⟨rfl, hb⟩
    have HB := Lib.hid hb
    clear hb
    go_wp2_with fail
    go_ret
    exact ⟨rfl, HB.out⟩
  go_wp2_with fail
  refine (HL2.out _).mono ?_; rintro e w1 ⟨rfl, rfl⟩
  cases q2
  · go_wp2_with fail
    refine (awake42 _).mono ?_; rintro e w3 ⟨rfl, hb⟩
    have HB := Lib.hid hb
    clear hb
    go_wp2_with fail
    go_ret
    exact ⟨rfl, HB.out⟩
  have HQ1 := Lib.hid (of_decide_eq_true hq1); have HQ2 := Lib.hid (of_decide_eq_true hq2)
  clear hq1 hq2 HL1 HL2
  go_wp2_with fail
  refine (made_roll A1 n1 c1 _ HQ1.out HLA1.out).mono ?_; rintro e w2 ⟨g1, hg1, rfl, hd1, hb2⟩
  have HD1 := Lib.hid hd1; have HB2 := Lib.hid hb2; have HG1 := Lib.hid hg1
  clear hd1 hb2 hg1 HLA1
  go_wp2_with fail
  refine (made_term 5 3 (by decide) (by decide) g1 g1 _ HD1.out).mono ?_; rintro e w3 ⟨P, AP, CP, hmd, rfl, hti, _, hg3⟩
  have hb3 : Below w.heap.size w w3 := HB2.out.grown hg3 HB2.out.size (fun k hk => by have e' : g1 = k := Option.some.inj hk; have := HG1.out; omega)
  have hwx := below_alloc1 w3 (.cells #[.int .i64 P.kind, .string P.name, .slice AP P.kids.length CP] 29)
  have hbx := Box.new w3 (.int .i64 P.kind) (.string P.name) (.slice AP P.kids.length CP)
  have HB4 := Lib.hid (hb3.trans (hwx.mono hb3.size)); have HP4 := Lib.hid (hti.at.later hwx); have HMD := Lib.hid hmd
  clear hb3 hwx hti hg3 hmd HB2 HD1 HG1
  go_upto_region 4 with fail
  generalize w3.alloc (.cells #[.int .i64 P.kind, .string P.name, .slice AP P.kids.length CP] 29) = w4 at hbx HB4 HP4 ⊢
  generalize w3.heap.size = gP at hbx ⊢
  have HBX := Lib.hid hbx; have HLB4 := Lib.hid (HLA2.out.below HB4.out)
  clear hbx HLA2
  go_wp2_with fail
  refine (made_roll A2 n2 c2 _ HQ2.out HLB4.out).mono ?_; rintro e w5 ⟨g, hg, rfl, hd5, hb5⟩
  have HD5 := Lib.hid hd5; have HB5 := Lib.hid hb5; have HG := Lib.hid hg
  clear hd5 hb5 hg
  go_wp2_with fail
  refine (ovalues g g _ HD5.out).mono ?_; rintro e w6 ⟨v6, L6, rfl, hrow6, hv6, hd6, hg6⟩
  have HD6 := Lib.hid hd6; have HV6 := Lib.hid hv6.use; have HROW6 := Lib.hid hrow6
  have hgl : g < w5.heap.size := HD5.out.lt
  have HB6 := Lib.hid (show Below w4.heap.size w4 w6 from HB5.out.grown hg6 HB5.out.size (fun k hk => by have e' : g = k := Option.some.inj hk; have := HG.out; omega))
  have hkeep : ∀ {W W' : World}, W.grownBy W' (some g) → BRow (w5.heap.size + 1) W v6 L6 → BRow (w5.heap.size + 1) W' v6 L6 := fun {W W'} hg h => h.keep fun b hb hl => hg.block b hl (fun e => by have e' := Option.some.inj e; omega)
  have hbel : ∀ {W W' : World}, W.grownBy W' (some g) → Below w4.heap.size w4 W → Below w4.heap.size w4 W' := fun {W W'} hg h => h.grown hg h.size (fun k hk => by have e' : g = k := Option.some.inj hk; have := HG.out; omega)
  have HKEEP := Lib.hid (fun (W W' : World) h1 h2 => hkeep (W := W) (W' := W') h1 h2); have HBEL := Lib.hid (fun (W W' : World) h1 h2 => hbel (W := W) (W' := W') h1 h2)
  clear hrow6 hv6 hd6 hg6 hkeep hbel HD5 HB5 hgl
  go_wp2_with fail
  refine (made_atom g g 0 _ HD6.out).mono ?_; rintro e w7 ⟨k1, s1, h1, rfl, hd7, hg7⟩
  have HD7 := Lib.hid hd7; have HROW7 := Lib.hid (HKEEP.out _ _ hg7 HROW6.out); have HB7 := Lib.hid (HBEL.out _ _ hg7 HB6.out); have H1 := Lib.hid h1
  clear hd7 hg7 h1 HD6 HROW6 HB6
  go_wp2_with fail
  refine (made_atom g g 0 _ HD7.out).mono ?_; rintro e w8 ⟨k2, s2, h2, rfl, hd8, hg8⟩
  have HD8 := Lib.hid hd8; have HROW8 := Lib.hid (HKEEP.out _ _ hg8 HROW7.out); have HB8 := Lib.hid (HBEL.out _ _ hg8 HB7.out); have H2 := Lib.hid h2
  clear hd8 hg8 h2 HD7 HROW7 HB7
  go_wp2_with fail
  refine (made_term 0 2 (by decide) (by decide) g g _ HD8.out).mono ?_; rintro e w9 ⟨Z, AZ, CZ, hmz, rfl, htz, _, hg9⟩
  have hrow9 := HKEEP.out _ _ hg9 HROW8.out; have hb9 := HBEL.out _ _ hg9 HB8.out
  have hwa := below_alloc1 w9 (.cells #[.string ⟨#[120]⟩, .int .i64 k1, .string s1, .slice none 0 0, .string ⟨#[121]⟩, .int .i64 k2, .string s2, .slice none 0 0, .string ⟨#[122]⟩, .int .i64 Z.kind, .string Z.name, .slice AZ Z.kids.length CZ] 66)
  have HALL := Lib.hid (all_binds w9 H1.out H2.out htz.at); have HVA := Lib.hid (all_vals H1.out H2.out hmz).use
  have HB6 := Lib.hid (hrow9.binds.later hwa)
  have HB10 := Lib.hid (hb9.trans (hwa.mono hb9.size))
  generalize hLA : [(⟨nmB 0, .mk k1 s1 []⟩ : Bd), ⟨nmB 1, .mk k2 s2 []⟩, ⟨nmB 2, Z⟩] = LA at HALL HVA
  clear hmz htz hg9 hrow9 hb9 hwa HROW8 HB8 HD8 HKEEP HBEL hLA
  go_upto_region 7 with fail
  generalize w9.alloc (.cells #[.string ⟨#[120]⟩, .int .i64 k1, .string s1, .slice none 0 0, .string ⟨#[121]⟩, .int .i64 k2, .string s2, .slice none 0 0, .string ⟨#[122]⟩, .int .i64 Z.kind, .string Z.name, .slice AZ Z.kids.length CZ] 66) = w10 at HALL HB6 HB10 ⊢
  generalize w9.heap.size = ga at HALL ⊢
  have hpv : P.valid = true := HMD.out.1.valid (by decide)
  have hpb : P.bulk ≤ 240 := HMD.out.1.bulk (by decide)
  have HPV := Lib.hid hpv; have HPB := Lib.hid hpb
  obtain ⟨x0, x1, x2⟩ := (HBX.out.later HB10.out).cells
  have HFI := Lib.hid (oFill P LA _ _ w10 (HP4.out.later HB10.out) HALL.out (fun x hx => by have := HVA.out.2.2 x hx; omega) (by omega))
  have hal := fun t => fills_all (p := P) (t := t) (b := LA)
  obtain ⟨r, hr⟩ : ∃ r, fillT P LA = r := ⟨_, rfl⟩
  rw [hr] at HFI hal
  have HAL := Lib.hid hal
  clear hr hal hpv hpb
  go_wp2_with fail
  refine HFI.out.mono ?_; rintro e w11 ⟨hb11, he⟩
  have HB11 := Lib.hid (HB10.out.trans (hb11.mono HB10.out.size))
  have HALL11 := Lib.hid (HALL.out.later hb11); have HB611 := Lib.hid (HB6.out.later hb11)
  clear hb11 x0 x1 x2 HFI
  cases r with
  | none =>
    obtain ⟨A3, C3, rfl⟩ := (show ∃ A c, e = .returned (.tuple #[.agg #[.int .i64 0, .string ⟨#[]⟩, .slice A 0 c], .bool false]) from he)
    have hq3 := below_alloc1 w11 (.cells #[.int .i64 0, .string ⟨#[]⟩, .slice A3 0 C3] 29)
    have HB12 := Lib.hid (HB11.out.trans (hq3.mono HB11.out.size))
    clear he hq3
    go_upto_region 8 with fail
    generalize w11.alloc (.cells #[.int .i64 0, .string ⟨#[]⟩, .slice A3 0 C3] 29) = w12 at HB12 ⊢
    go_wp2_with fail
    refine (awake42 _).mono ?_; rintro e w13 ⟨rfl, hb⟩
    have HB13 := Lib.hid (HB12.out.trans (hb.mono HB12.out.size))
    clear hb
    go_wp2_with fail
    go_ret
    exact ⟨rfl, HB4.out.trans (HB13.out.mono HB4.out.size)⟩
  | some t =>
    obtain ⟨A3, C3, rfl, hti⟩ := (show ∃ A c, e = .returned (.tuple #[.agg #[.int .i64 t.kind, .string t.name, .slice A t.kids.length c], .bool true]) ∧ TermIn (from_ w10.heap.size) w11 (.agg #[.int .i64 t.kind, .string t.name, .slice A t.kids.length c]) t from he)
    have hq3 := below_alloc1 w11 (.cells #[.int .i64 t.kind, .string t.name, .slice A3 t.kids.length C3] 29)
    have bx9 := Box.new w11 (.int .i64 t.kind) (.string t.name) (.slice A3 t.kids.length C3)
    have HT12 := Lib.hid (hti.at.later hq3)
    have HB12 := Lib.hid (HB11.out.trans (hq3.mono HB11.out.size)); have HALL12 := Lib.hid (HALL11.out.later hq3); have HB612 := Lib.hid (HB611.out.later hq3)
    have hfa := HAL.out t rfl HVA.out.1
    have htb : t.bulk ≤ 800 := valid_bulk (T.use_valid hfa.1)
    have HFA := Lib.hid hfa; have HTB := Lib.hid htb
    clear he hq3 hti hfa htb
    go_upto_region 8 with fail
    generalize w11.alloc (.cells #[.int .i64 t.kind, .string t.name, .slice A3 t.kids.length C3] 29) = w12 at bx9 HT12 HB12 HALL12 HB612 ⊢
    generalize w11.heap.size = g9 at bx9 ⊢
    have BX9 := Lib.hid bx9; have HP12 := Lib.hid (HP4.out.later HB12.out); have HBX12 := Lib.hid (HBX.out.later HB12.out)
    clear bx9
    have HMM := Lib.hid (fun Lb v1 v2 v3 W h1 h2 h3 (hlb : properB Lb = true ∧ Lb.length ≤ 3 ∧ ∀ x ∈ Lb, x.t.bulk ≤ 240) => oMatch P t Lb v1 v2 v3 W h1 h2 h3 (by omega) (fun x hx => by have := hlb.2.2 x hx; omega) (by have := HPB.out; omega) (by have := HTB.out; omega))
    have HKP := Lib.hid (fun Lb x (hlb : properB Lb = true ∧ Lb.length ≤ 3 ∧ ∀ x ∈ Lb, x.t.bulk ≤ 240) (h : matT P t Lb = some x) => show fillT P x = some t ∧ keptB Lb x = true ∧ ∀ y ∈ x, y.t.bulk ≤ 800 from by
      obtain ⟨h1, h2⟩ := fills_kept h
      obtain ⟨_, _, h5, h6⟩ := matT_some h
      exact ⟨h1, h2, (mat_keeps (M := 800) P t Lb x ⟨UpB.of h5, fun y hy => by have := hlb.2.2 y hy; omega⟩ HTB.out h6).1.2⟩)
    go_wp2_with fail
    go_loopw [11, 7] (fun iv bv wr => ∃ (i : Nat) (Lb : List Bd), i ≤ 2 ∧ iv = .int .i64 i ∧ BindsAt wr bv Lb ∧ (properB Lb = true ∧ Lb.length ≤ 3 ∧ ∀ x ∈ Lb, x.t.bulk ≤ 240) ∧ Below w12.heap.size w12 wr) (fun iv _ _ => 2 - (intOf iv).toNat)
    case atStart => exact ⟨0, L6, by omega, rfl, HB612.out, HV6.out, Below.refl _ _⟩
    case round =>
      obtain ⟨i, Lb, hi, rfl, hbb, hlb, hbw⟩ := hrel
      have HBB := Lib.hid hbb; have HLBB := Lib.hid hlb; have HBW := Lib.hid hbw
      obtain ⟨x0, x1, x2⟩ := (HBX12.out.later hbw).cells
      obtain ⟨y0, y1, y2⟩ := (BX9.out.later hbw).cells
      clear hbb hlb hbw
      by_cases hlt : i < 2
      · have hi2 : (i : Int) < 2 := by omega
        have HLT := Lib.hid hlt
        clear hlt hi
        have HM := Lib.hid (HMM.out Lb _ _ _ _ (HP12.out.later HBW.out) (HT12.out.later HBW.out) HBB.out HLBB.out)
        have hkp := fun x => HKP.out Lb x HLBB.out
        obtain ⟨m, hm⟩ : ∃ m, matT P t Lb = m := ⟨_, rfl⟩
        rw [hm] at HM hkp
        have HK := Lib.hid hkp
        clear hm hkp
        cases m with
        | none =>
          go_wp2_with fail
          refine HM.out.mono ?_; rintro e w13 ⟨hb13, he⟩
          obtain ⟨v13, rfl⟩ := (show ∃ v, e = .returned (.tuple #[v, .bool false]) from he)
          have HB13 := Lib.hid (HBW.out.trans (hb13.mono HBW.out.size))
          clear he hb13 x0 x1 x2 y0 y1 y2
          go_wp2_with fail
          go_roundw
          case rel => exact ⟨i + 1, [], HLT.out, by go_num, BindsAt.nil _, ⟨rfl, by decide, fun _ h => (List.not_mem_nil h).elim⟩, HB13.out⟩
          case measure => have := HLT.out; simp [intOf]; omega
        | some x =>
          obtain ⟨hf, hk, hxb⟩ := HK.out x rfl
          have HF := Lib.hid hf; have HKK := Lib.hid hk; have HXB := Lib.hid hxb
          clear hf hk hxb
          go_wp2_with fail
          refine HM.out.mono ?_; rintro e w13 ⟨hb13, he⟩
          obtain ⟨v13, rfl, hv13⟩ := (show ∃ v, e = .returned (.tuple #[v, .bool true]) ∧ BindsAt w13 v x from he)
          have HB13 := Lib.hid (HBW.out.trans (hb13.mono HBW.out.size)); have HV13 := Lib.hid hv13; have HBB13 := Lib.hid (HBB.out.later hb13)
          clear he hb13 x0 x1 x2 y0 y1 y2 hv13
          obtain ⟨x0, x1, x2⟩ := (HBX12.out.later HB13.out).cells
          have hfi := oFill P x _ v13 w13 (HP12.out.later HB13.out) HV13.out (fun y hy => by have := HXB.out y hy; omega) (by have := HPB.out; omega)
          rw [HF.out] at hfi
          have HFI := Lib.hid hfi
          clear hfi
          go_wp2_with fail
          refine HFI.out.mono ?_; rintro e w14 ⟨hb14, he⟩
          obtain ⟨A4, C4, rfl, hti⟩ := (show ∃ A c, e = .returned (.tuple #[.agg #[.int .i64 t.kind, .string t.name, .slice A t.kids.length c], .bool true]) ∧ TermIn (from_ w13.heap.size) w14 (.agg #[.int .i64 t.kind, .string t.name, .slice A t.kids.length c]) t from he)
          have hq4 := below_alloc1 w14 (.cells #[.int .i64 t.kind, .string t.name, .slice A4 t.kids.length C4] 29)
          have bx14 := Box.new w14 (.int .i64 t.kind) (.string t.name) (.slice A4 t.kids.length C4)
          have hb15 := hb14.trans (hq4.mono hb14.size)
          have HT15 := Lib.hid (hti.at.later hq4); have HB15 := Lib.hid (HB13.out.trans (hb15.mono HB13.out.size)); have HV15 := Lib.hid (HV13.out.later hb15); have HBB15 := Lib.hid (HBB13.out.later hb15)
          clear he hb14 hq4 hb15 hti x0 x1 x2
          go_upto_region 16 with fail
          generalize w14.alloc (.cells #[.int .i64 t.kind, .string t.name, .slice A4 t.kids.length C4] 29) = w15 at bx14 HT15 HB15 HV15 HBB15 ⊢
          generalize w14.heap.size = g14 at bx14 ⊢
          obtain ⟨z0, z1, z2⟩ := bx14.cells
          obtain ⟨y0, y1, y2⟩ := (BX9.out.later HB15.out).cells
          have hsm := rsame t t _ _ w15 (HT12.out.later HB15.out) HT15.out (by have := HTB.out; omega) (by have := HTB.out; omega)
          rw [T.cmp_self] at hsm
          have HSM := Lib.hid hsm
          clear hsm bx14
          go_wp2_with fail
          refine HSM.out.mono ?_; rintro e w16 ⟨rfl, hb16⟩
          have hke := okept Lb x _ _ w16 (HBB15.out.later hb16) (HV15.out.later hb16) (fun y hy => by have := HLBB.out.2.2 y hy; omega) (fun y hy => by have := HXB.out y hy; omega)
          rw [HKK.out] at hke
          have HKE := Lib.hid hke; have HB16 := Lib.hid (HB15.out.trans (hb16.mono HB15.out.size))
          clear hb16 hke y0 y1 y2 z0 z1 z2
          go_wp2_with fail
          refine HKE.out.mono ?_; rintro e w17 ⟨rfl, hb17⟩
          have HB17 := Lib.hid (HB16.out.trans (hb17.mono HB16.out.size))
          clear hb17
          go_wp2_with fail
          go_roundw
          case rel => exact ⟨i + 1, [], HLT.out, by go_num, BindsAt.nil _, ⟨rfl, by decide, fun _ h => (List.not_mem_nil h).elim⟩, HB17.out⟩
          case measure => have := HLT.out; simp [intOf]; omega
      · obtain rfl : i = 2 := by omega
        have HM := Lib.hid (HMM.out LA _ _ (.slice (some ⟨ga, 0, none⟩) 3 3) _ (HP12.out.later HBW.out) (HT12.out.later HBW.out) (HALL12.out.later HBW.out) HVA.out)
        rw [HFA.out.2] at HM
        go_wp2_with fail
        refine HM.out.mono ?_; rintro e w13 ⟨hb13, he⟩
        obtain ⟨v13, rfl, _⟩ := (show ∃ v, e = .returned (.tuple #[v, .bool true]) ∧ BindsAt w13 v LA from he)
        have HB13 := Lib.hid (HBW.out.trans (hb13.mono HBW.out.size))
        clear he hb13 x0 x1 x2 y0 y1 y2
        go_wp2_with fail
        refine (awake42 _).mono ?_; rintro e w14 ⟨rfl, hb⟩
        have HB14 := Lib.hid (HB13.out.trans (hb.mono HB13.out.size))
        clear hb
        go_wp2_with fail
        go_ret
        exact ⟨rfl, HB4.out.trans ((HB12.out.trans (HB14.out.mono HB12.out.size)).mono HB4.out.size)⟩
set_option maxRecDepth 100000 in
theorem walkStrandsFills {H : Type} {enc : TypeId × Value → H} {X Y Z : Prop} (w : World) (v0 : Value) (d0 : DataW H) {b0 : Nat} {p0 : List MemPlace} {r0 : Reach} (hv0 : Value.okWide Tryz.prog w r0 b0 22 v0) (hd0 : DataW.Trod enc Tryz.prog w 0 (fun _ => true) true 22 v0 d0 p0)
    (v1 : Value) (d1 : DataW H) {b1 : Nat} {p1 : List MemPlace} {r1 : Reach} (hv1 : Value.okWide Tryz.prog w r1 b1 22 v1) (hd1 : DataW.Trod enc Tryz.prog w 0 (fun _ => true) true 22 v1 d1 p1) (_hsz : X) (_hL : Y) (_hsh : Z) :
    Calls Tryz.prog 9 #[v0, v1] w fun e w' => e = .returned (.bool true) ∧ Below w.heap.size w w' := by
  obtain ⟨A1, n1, c1, rfl, a1, a2, a3⟩ := open_list hv0 hd0
  obtain ⟨A2, n2, c2, rfl, e1, e2, e3⟩ := open_list hv1 hd1
  exact str_fills A1 A2 n1 n2 c1 c2 w (Nat.le_trans a1 a2) (Nat.le_trans e1 e2) a3 e3
end Go.Proofs.YtihbmgkbipeakaaGreat
