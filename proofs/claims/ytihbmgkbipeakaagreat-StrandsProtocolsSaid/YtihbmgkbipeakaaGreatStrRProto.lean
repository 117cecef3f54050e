/- Chapter 42: the walk of the reference's Protocol. -/
import Derived.Test.YtihbmgkbipeakaaGreatStrRStrand
import Derived.Test.YtihbmgkbipeakaaGreatStrGE
namespace Go.Proofs.YtihbmgkbipeakaaGreat
open Go.RowKit

theorem terms_new5 {w : World} {t0 t1 t2 t3 t4 : T} {A0 A1 A2 A3 A4 : Option Addr} {c0 c1 c2 c3 c4 : Nat} (h0 : TermAt w (.agg #[.int .i64 t0.kind, .string t0.name, .slice A0 t0.kids.length c0]) t0) (h1 : TermAt w (.agg #[.int .i64 t1.kind, .string t1.name, .slice A1 t1.kids.length c1]) t1) (h2 : TermAt w (.agg #[.int .i64 t2.kind, .string t2.name, .slice A2 t2.kids.length c2]) t2) (h3 : TermAt w (.agg #[.int .i64 t3.kind, .string t3.name, .slice A3 t3.kids.length c3]) t3) (h4 : TermAt w (.agg #[.int .i64 t4.kind, .string t4.name, .slice A4 t4.kids.length c4]) t4) :
    TermsL (w.alloc (.cells #[.int .i64 t0.kind, .string t0.name, .slice A0 t0.kids.length c0, .int .i64 t1.kind, .string t1.name, .slice A1 t1.kids.length c1, .int .i64 t2.kind, .string t2.name, .slice A2 t2.kids.length c2, .int .i64 t3.kind, .string t3.name, .slice A3 t3.kids.length c3, .int .i64 t4.kind, .string t4.name, .slice A4 t4.kids.length c4] 29)) (.slice (some ⟨w.heap.size, 0, none⟩) 5 5) [t0, t1, t2, t3, t4] := by
  have hb := below_alloc1 w (.cells #[.int .i64 t0.kind, .string t0.name, .slice A0 t0.kids.length c0, .int .i64 t1.kind, .string t1.name, .slice A1 t1.kids.length c1, .int .i64 t2.kind, .string t2.name, .slice A2 t2.kids.length c2, .int .i64 t3.kind, .string t3.name, .slice A3 t3.kids.length c3, .int .i64 t4.kind, .string t4.name, .slice A4 t4.kids.length c4] 29)
  refine TermAt.mk 0 ⟨#[]⟩ (some ⟨w.heap.size, 0, none⟩) 5 [t0, t1, t2, t3, t4] (fun i => match i with | 0 => (.int .i64 t0.kind, .string t0.name, .slice A0 t0.kids.length c0) | 1 => (.int .i64 t1.kind, .string t1.name, .slice A1 t1.kids.length c1) | 2 => (.int .i64 t2.kind, .string t2.name, .slice A2 t2.kids.length c2) | 3 => (.int .i64 t3.kind, .string t3.name, .slice A3 t3.kids.length c3) | _ => (.int .i64 t4.kind, .string t4.name, .slice A4 t4.kids.length c4)) (by omega) (by decide) (Nat.le_refl 5) (by decide) (.inr ⟨_, 0, rfl, fun i hi => ?_⟩) (fun i hi => ?_)
  · match i, hi with
    | 0, _ => exact ⟨by rw [cells_at]; rfl, by rw [cells_at]; rfl, by rw [cells_at]; rfl⟩
    | 1, _ => exact ⟨by rw [cells_at]; rfl, by rw [cells_at]; rfl, by rw [cells_at]; rfl⟩
    | 2, _ => exact ⟨by rw [cells_at]; rfl, by rw [cells_at]; rfl, by rw [cells_at]; rfl⟩
    | 3, _ => exact ⟨by rw [cells_at]; rfl, by rw [cells_at]; rfl, by rw [cells_at]; rfl⟩
    | 4, _ => exact ⟨by rw [cells_at]; rfl, by rw [cells_at]; rfl, by rw [cells_at]; rfl⟩
  · match i, hi with
    | 0, _ => exact h0.later hb
    | 1, _ => exact h1.later hb
    | 2, _ => exact h2.later hb
    | 3, _ => exact h3.later hb
    | 4, _ => exact h4.later hb

set_option maxRecDepth 100000 in
set_option maxHeartbeats 8000000 in
theorem rproto_passive (w : World) : Calls Tryz.prog 31 #[.string b_passive] w (ProtoPost [s_cP, s_rP] m_known w) := by
  have hadd : (⟨#[83, 32]⟩ : ByteArray) ++ ⟨#[115, 105, 103, 110, 40, 115, 116, 97, 116, 101, 44, 32, 60, 100, 97, 116, 97, 44, 32, 112, 111, 119, 101, 114, 40, 99, 104, 105, 112, 41, 62, 41]⟩ = ⟨#[83, 32, 115, 105, 103, 110, 40, 115, 116, 97, 116, 101, 44, 32, 60, 100, 97, 116, 97, 44, 32, 112, 111, 119, 101, 114, 40, 99, 104, 105, 112, 41, 62, 41]⟩ := by kernel_rfl
  have HADD := Lib.hid hadd
  clear hadd
  go_enter Tryz.func31, Tryz.ntmps31
  go_wp2_with fail
  refine (ref_term ⟨#[100, 97, 116, 97]⟩ _).mono ?_; rintro e w1 ⟨A0, c0, rfl, ht, hb⟩
  have HT0 := Lib.hid ht.at
  have HB := Lib.hid (hb)
  clear ht hb
  go_wp2_with fail
  refine (ref_term ⟨#[115, 105, 103, 110, 40, 115, 116, 97, 116, 101, 44, 32, 60, 100, 97, 116, 97, 44, 32, 112, 111, 119, 101, 114, 40, 99, 104, 105, 112, 41, 62, 41]⟩ _).mono ?_; rintro e w2 ⟨A1, c1, rfl, ht, hb⟩
  have HT0 := Lib.hid (TermAt.later HT0.out hb)
  have HT1 := Lib.hid ht.at
  have HB := Lib.hid (HB.out.trans (hb.mono HB.out.size))
  clear ht hb
  go_wp2_with fail
  refine (ref_term ⟨#[112, 111, 119, 101, 114, 40, 115, 116, 97, 116, 101, 41]⟩ _).mono ?_; rintro e w3 ⟨A2, c2, rfl, ht, hb⟩
  have HT0 := Lib.hid (TermAt.later HT0.out hb)
  have HT1 := Lib.hid (TermAt.later HT1.out hb)
  have HT2 := Lib.hid ht.at
  have HB := Lib.hid (HB.out.trans (hb.mono HB.out.size))
  clear ht hb
  go_wp2_with fail
  refine (ref_term ⟨#[101, 118, 105, 108]⟩ _).mono ?_; rintro e w4 ⟨A3, c3, rfl, ht, hb⟩
  have HT0 := Lib.hid (TermAt.later HT0.out hb)
  have HT1 := Lib.hid (TermAt.later HT1.out hb)
  have HT2 := Lib.hid (TermAt.later HT2.out hb)
  have HT3 := Lib.hid ht.at
  have HB := Lib.hid (HB.out.trans (hb.mono HB.out.size))
  clear ht hb
  go_wp2_with fail
  refine (ref_term ⟨#[112, 111, 119, 101, 114, 40, 101, 118, 105, 108, 41]⟩ _).mono ?_; rintro e w5 ⟨A4, c4, rfl, ht, hb⟩
  have HT0 := Lib.hid (TermAt.later HT0.out hb)
  have HT1 := Lib.hid (TermAt.later HT1.out hb)
  have HT2 := Lib.hid (TermAt.later HT2.out hb)
  have HT3 := Lib.hid (TermAt.later HT3.out hb)
  have HT4 := Lib.hid ht.at
  have HB := Lib.hid (HB.out.trans (hb.mono HB.out.size))
  clear ht hb
  have hk := terms_new5 HT0.out HT1.out HT2.out HT3.out HT4.out
  have hb := below_alloc1 w5 (.cells #[.int .i64 (T.parse ⟨#[100, 97, 116, 97]⟩).1.kind, .string (T.parse ⟨#[100, 97, 116, 97]⟩).1.name, .slice A0 (T.parse ⟨#[100, 97, 116, 97]⟩).1.kids.length c0, .int .i64 (T.parse ⟨#[115, 105, 103, 110, 40, 115, 116, 97, 116, 101, 44, 32, 60, 100, 97, 116, 97, 44, 32, 112, 111, 119, 101, 114, 40, 99, 104, 105, 112, 41, 62, 41]⟩).1.kind, .string (T.parse ⟨#[115, 105, 103, 110, 40, 115, 116, 97, 116, 101, 44, 32, 60, 100, 97, 116, 97, 44, 32, 112, 111, 119, 101, 114, 40, 99, 104, 105, 112, 41, 62, 41]⟩).1.name, .slice A1 (T.parse ⟨#[115, 105, 103, 110, 40, 115, 116, 97, 116, 101, 44, 32, 60, 100, 97, 116, 97, 44, 32, 112, 111, 119, 101, 114, 40, 99, 104, 105, 112, 41, 62, 41]⟩).1.kids.length c1, .int .i64 (T.parse ⟨#[112, 111, 119, 101, 114, 40, 115, 116, 97, 116, 101, 41]⟩).1.kind, .string (T.parse ⟨#[112, 111, 119, 101, 114, 40, 115, 116, 97, 116, 101, 41]⟩).1.name, .slice A2 (T.parse ⟨#[112, 111, 119, 101, 114, 40, 115, 116, 97, 116, 101, 41]⟩).1.kids.length c2, .int .i64 (T.parse ⟨#[101, 118, 105, 108]⟩).1.kind, .string (T.parse ⟨#[101, 118, 105, 108]⟩).1.name, .slice A3 (T.parse ⟨#[101, 118, 105, 108]⟩).1.kids.length c3, .int .i64 (T.parse ⟨#[112, 111, 119, 101, 114, 40, 101, 118, 105, 108, 41]⟩).1.kind, .string (T.parse ⟨#[112, 111, 119, 101, 114, 40, 101, 118, 105, 108, 41]⟩).1.name, .slice A4 (T.parse ⟨#[112, 111, 119, 101, 114, 40, 101, 118, 105, 108, 41]⟩).1.kids.length c4] 29)
  go_upto_region 3 with fail
  generalize w5.alloc (.cells #[.int .i64 (T.parse ⟨#[100, 97, 116, 97]⟩).1.kind, .string (T.parse ⟨#[100, 97, 116, 97]⟩).1.name, .slice A0 (T.parse ⟨#[100, 97, 116, 97]⟩).1.kids.length c0, .int .i64 (T.parse ⟨#[115, 105, 103, 110, 40, 115, 116, 97, 116, 101, 44, 32, 60, 100, 97, 116, 97, 44, 32, 112, 111, 119, 101, 114, 40, 99, 104, 105, 112, 41, 62, 41]⟩).1.kind, .string (T.parse ⟨#[115, 105, 103, 110, 40, 115, 116, 97, 116, 101, 44, 32, 60, 100, 97, 116, 97, 44, 32, 112, 111, 119, 101, 114, 40, 99, 104, 105, 112, 41, 62, 41]⟩).1.name, .slice A1 (T.parse ⟨#[115, 105, 103, 110, 40, 115, 116, 97, 116, 101, 44, 32, 60, 100, 97, 116, 97, 44, 32, 112, 111, 119, 101, 114, 40, 99, 104, 105, 112, 41, 62, 41]⟩).1.kids.length c1, .int .i64 (T.parse ⟨#[112, 111, 119, 101, 114, 40, 115, 116, 97, 116, 101, 41]⟩).1.kind, .string (T.parse ⟨#[112, 111, 119, 101, 114, 40, 115, 116, 97, 116, 101, 41]⟩).1.name, .slice A2 (T.parse ⟨#[112, 111, 119, 101, 114, 40, 115, 116, 97, 116, 101, 41]⟩).1.kids.length c2, .int .i64 (T.parse ⟨#[101, 118, 105, 108]⟩).1.kind, .string (T.parse ⟨#[101, 118, 105, 108]⟩).1.name, .slice A3 (T.parse ⟨#[101, 118, 105, 108]⟩).1.kids.length c3, .int .i64 (T.parse ⟨#[112, 111, 119, 101, 114, 40, 101, 118, 105, 108, 41]⟩).1.kind, .string (T.parse ⟨#[112, 111, 119, 101, 114, 40, 101, 118, 105, 108, 41]⟩).1.name, .slice A4 (T.parse ⟨#[112, 111, 119, 101, 114, 40, 101, 118, 105, 108, 41]⟩).1.kids.length c4] 29) = v0 at hk hb ⊢
  change TermsL v0 _ m_known at hk
  have HK := Lib.hid hk; have HB := Lib.hid (HB.out.trans (hb.mono HB.out.size))
  clear hk hb HT0 HT1 HT2 HT3 HT4
  have hadd := HADD.out
  go_wp2_with fail
  refine (rstrand b_chip x_cP (some ⟨v0.heap.size, 0, none⟩) 2 _ (by decide) (texts_new v0 x_cP) (good_all _ (by kernel_rfl)) m_cP rfl).mono ?_; rintro e u0 ⟨B0, d0, rfl, hm, hb⟩
  clear hadd
  have hb1 := (below_alloc1 v0 (.cells (x_cP.map Value.string).toArray 9)).trans (hb.mono (by rw [size_alloc1]; omega))
  have hbx := SBox.new u0 (.string s_cP.1) (.slice B0 s_cP.2.length d0)
  have hb2 := hb1.trans ((below_alloc1 u0 (.cells #[.string s_cP.1, .slice B0 s_cP.2.length d0] 49)).mono hb1.size)
  have hmx := hm.at.later (below_alloc1 u0 (.cells #[.string s_cP.1, .slice B0 s_cP.2.length d0] 49))
  go_upto_region 4 with fail
  change MovesAt (u0.alloc (.cells #[.string b_chip, .slice B0 m_cP.length d0] 49)) B0 m_cP at hmx
  change SBox (u0.alloc (.cells #[.string b_chip, .slice B0 m_cP.length d0] 49)) _ _ _ at hbx
  change Below _ _ (u0.alloc (.cells #[.string b_chip, .slice B0 m_cP.length d0] 49)) at hb2
  generalize u0.alloc (.cells #[.string b_chip, .slice B0 m_cP.length d0] 49) = v1 at hbx hmx hb2 ⊢
  have HX0 := Lib.hid hbx; have HM0 := Lib.hid hmx; have HK := Lib.hid (TermAt.later HK.out hb2); have HB := Lib.hid (HB.out.trans (hb2.mono HB.out.size))
  clear hbx hmx hb2 hb1 hb hm
  go_wp2_with fail
  refine (rstrand b_reader x_rP (some ⟨v1.heap.size, 0, none⟩) 2 _ (by decide) (texts_new v1 x_rP) (good_all _ (by kernel_rfl)) m_rP rfl).mono ?_; rintro e u1 ⟨B1, d1, rfl, hm, hb⟩
  have hb1 := (below_alloc1 v1 (.cells (x_rP.map Value.string).toArray 9)).trans (hb.mono (by rw [size_alloc1]; omega))
  have hbx := SBox.new u1 (.string s_rP.1) (.slice B1 s_rP.2.length d1)
  have hb2 := hb1.trans ((below_alloc1 u1 (.cells #[.string s_rP.1, .slice B1 s_rP.2.length d1] 49)).mono hb1.size)
  have hmx := hm.at.later (below_alloc1 u1 (.cells #[.string s_rP.1, .slice B1 s_rP.2.length d1] 49))
  go_upto_region 5 with fail
  change MovesAt (u1.alloc (.cells #[.string b_reader, .slice B1 m_rP.length d1] 49)) B1 m_rP at hmx
  change SBox (u1.alloc (.cells #[.string b_reader, .slice B1 m_rP.length d1] 49)) _ _ _ at hbx
  change Below _ _ (u1.alloc (.cells #[.string b_reader, .slice B1 m_rP.length d1] 49)) at hb2
  generalize u1.alloc (.cells #[.string b_reader, .slice B1 m_rP.length d1] 49) = v2 at hbx hmx hb2 ⊢
  have HX0 := Lib.hid (HX0.out.later hb2); have HM0 := Lib.hid (HM0.out.later hb2)
  have HX1 := Lib.hid hbx; have HM1 := Lib.hid hmx; have HK := Lib.hid (TermAt.later HK.out hb2); have HB := Lib.hid (HB.out.trans (hb2.mono HB.out.size))
  clear hbx hmx hb2 hb1 hb hm
  have hadd := HADD.out
  go_wp2_with fail
  refine (rstrand b_chip x_cA (some ⟨v2.heap.size, 0, none⟩) 4 _ (by decide) (texts_new v2 x_cA) (good_all _ (by kernel_rfl)) m_cA rfl).mono ?_; rintro e u2 ⟨B2, d2, rfl, hm, hb⟩
  clear hadd
  have hb1 := (below_alloc1 v2 (.cells (x_cA.map Value.string).toArray 9)).trans (hb.mono (by rw [size_alloc1]; omega))
  have hbx := SBox.new u2 (.string s_cA.1) (.slice B2 s_cA.2.length d2)
  have hb2 := hb1.trans ((below_alloc1 u2 (.cells #[.string s_cA.1, .slice B2 s_cA.2.length d2] 49)).mono hb1.size)
  have hmx := hm.at.later (below_alloc1 u2 (.cells #[.string s_cA.1, .slice B2 s_cA.2.length d2] 49))
  go_upto_region 6 with fail
  change MovesAt (u2.alloc (.cells #[.string b_chip, .slice B2 m_cA.length d2] 49)) B2 m_cA at hmx
  change SBox (u2.alloc (.cells #[.string b_chip, .slice B2 m_cA.length d2] 49)) _ _ _ at hbx
  change Below _ _ (u2.alloc (.cells #[.string b_chip, .slice B2 m_cA.length d2] 49)) at hb2
  generalize u2.alloc (.cells #[.string b_chip, .slice B2 m_cA.length d2] 49) = v3 at hbx hmx hb2 ⊢
  have HX0 := Lib.hid (HX0.out.later hb2); have HM0 := Lib.hid (HM0.out.later hb2)
  have HX1 := Lib.hid (HX1.out.later hb2); have HM1 := Lib.hid (HM1.out.later hb2)
  have HX2 := Lib.hid hbx; have HM2 := Lib.hid hmx; have HK := Lib.hid (TermAt.later HK.out hb2); have HB := Lib.hid (HB.out.trans (hb2.mono HB.out.size))
  clear hbx hmx hb2 hb1 hb hm
  go_wp2_with fail
  refine (rstrand b_reader x_rA (some ⟨v3.heap.size, 0, none⟩) 4 _ (by decide) (texts_new v3 x_rA) (good_all _ (by kernel_rfl)) m_rA rfl).mono ?_; rintro e u3 ⟨B3, d3, rfl, hm, hb⟩
  have hb1 := (below_alloc1 v3 (.cells (x_rA.map Value.string).toArray 9)).trans (hb.mono (by rw [size_alloc1]; omega))
  have hbx := SBox.new u3 (.string s_rA.1) (.slice B3 s_rA.2.length d3)
  have hb2 := hb1.trans ((below_alloc1 u3 (.cells #[.string s_rA.1, .slice B3 s_rA.2.length d3] 49)).mono hb1.size)
  have hmx := hm.at.later (below_alloc1 u3 (.cells #[.string s_rA.1, .slice B3 s_rA.2.length d3] 49))
  go_upto_region 8 with fail
  change MovesAt (u3.alloc (.cells #[.string b_reader, .slice B3 m_rA.length d3] 49)) B3 m_rA at hmx
  change SBox (u3.alloc (.cells #[.string b_reader, .slice B3 m_rA.length d3] 49)) _ _ _ at hbx
  change Below _ _ (u3.alloc (.cells #[.string b_reader, .slice B3 m_rA.length d3] 49)) at hb2
  generalize u3.alloc (.cells #[.string b_reader, .slice B3 m_rA.length d3] 49) = v4 at hbx hmx hb2 ⊢
  have HX0 := Lib.hid (HX0.out.later hb2); have HM0 := Lib.hid (HM0.out.later hb2)
  have HX1 := Lib.hid (HX1.out.later hb2); have HM1 := Lib.hid (HM1.out.later hb2)
  have HX2 := Lib.hid (HX2.out.later hb2); have HM2 := Lib.hid (HM2.out.later hb2)
  have HX3 := Lib.hid hbx; have HM3 := Lib.hid hmx; have HK := Lib.hid (TermAt.later HK.out hb2); have HB := Lib.hid (HB.out.trans (hb2.mono HB.out.size))
  clear hbx hmx hb2 hb1 hb hm
  obtain ⟨q0, r0⟩ := HX0.out.cells
  obtain ⟨q1, r1⟩ := HX1.out.cells
  have hst := strands_new2 (s0 := s_cP) (A0 := B0) (c0 := d0) (s1 := s_rP) (A1 := B1) (c1 := d1) HM0.out HM1.out
  have hb := below_alloc1 v4 (.cells #[.string s_cP.1, .slice B0 s_cP.2.length d0, .string s_rP.1, .slice B1 s_rP.2.length d1] 49)
  have HST := Lib.hid hst; have HBF := Lib.hid hb
  clear hst hb
  go_wp2_with fail
  refine bodyPost_ret (v := .tuple #[.slice (some ⟨v4.heap.size, 0, none⟩) 2 2, .slice (some ⟨w5.heap.size, 0, none⟩) 5 5, .bool true]) (by simp [results, Tryz.results31, go_sem]; try rfl) rfl ?_
  exact ⟨_, _, _, _, rfl, HST.out, TermAt.later HK.out HBF.out, HB.out.trans (HBF.out.mono HB.out.size)⟩
set_option maxRecDepth 100000 in
set_option maxHeartbeats 8000000 in
theorem rproto_active (w : World) : Calls Tryz.prog 31 #[.string b_active] w (ProtoPost [s_cA, s_rA] m_known w) := by
  have hadd : (⟨#[83, 32]⟩ : ByteArray) ++ ⟨#[115, 105, 103, 110, 40, 115, 116, 97, 116, 101, 44, 32, 60, 100, 97, 116, 97, 44, 32, 112, 111, 119, 101, 114, 40, 99, 104, 105, 112, 41, 62, 41]⟩ = ⟨#[83, 32, 115, 105, 103, 110, 40, 115, 116, 97, 116, 101, 44, 32, 60, 100, 97, 116, 97, 44, 32, 112, 111, 119, 101, 114, 40, 99, 104, 105, 112, 41, 62, 41]⟩ := by kernel_rfl
  have HADD := Lib.hid hadd
  clear hadd
  go_enter Tryz.func31, Tryz.ntmps31
  go_wp2_with fail
  refine (ref_term ⟨#[100, 97, 116, 97]⟩ _).mono ?_; rintro e w1 ⟨A0, c0, rfl, ht, hb⟩
  have HT0 := Lib.hid ht.at
  have HB := Lib.hid (hb)
  clear ht hb
  go_wp2_with fail
  refine (ref_term ⟨#[115, 105, 103, 110, 40, 115, 116, 97, 116, 101, 44, 32, 60, 100, 97, 116, 97, 44, 32, 112, 111, 119, 101, 114, 40, 99, 104, 105, 112, 41, 62, 41]⟩ _).mono ?_; rintro e w2 ⟨A1, c1, rfl, ht, hb⟩
  have HT0 := Lib.hid (TermAt.later HT0.out hb)
  have HT1 := Lib.hid ht.at
  have HB := Lib.hid (HB.out.trans (hb.mono HB.out.size))
  clear ht hb
  go_wp2_with fail
  refine (ref_term ⟨#[112, 111, 119, 101, 114, 40, 115, 116, 97, 116, 101, 41]⟩ _).mono ?_; rintro e w3 ⟨A2, c2, rfl, ht, hb⟩
  have HT0 := Lib.hid (TermAt.later HT0.out hb)
  have HT1 := Lib.hid (TermAt.later HT1.out hb)
  have HT2 := Lib.hid ht.at
  have HB := Lib.hid (HB.out.trans (hb.mono HB.out.size))
  clear ht hb
  go_wp2_with fail
  refine (ref_term ⟨#[101, 118, 105, 108]⟩ _).mono ?_; rintro e w4 ⟨A3, c3, rfl, ht, hb⟩
  have HT0 := Lib.hid (TermAt.later HT0.out hb)
  have HT1 := Lib.hid (TermAt.later HT1.out hb)
  have HT2 := Lib.hid (TermAt.later HT2.out hb)
  have HT3 := Lib.hid ht.at
  have HB := Lib.hid (HB.out.trans (hb.mono HB.out.size))
  clear ht hb
  go_wp2_with fail
  refine (ref_term ⟨#[112, 111, 119, 101, 114, 40, 101, 118, 105, 108, 41]⟩ _).mono ?_; rintro e w5 ⟨A4, c4, rfl, ht, hb⟩
  have HT0 := Lib.hid (TermAt.later HT0.out hb)
  have HT1 := Lib.hid (TermAt.later HT1.out hb)
  have HT2 := Lib.hid (TermAt.later HT2.out hb)
  have HT3 := Lib.hid (TermAt.later HT3.out hb)
  have HT4 := Lib.hid ht.at
  have HB := Lib.hid (HB.out.trans (hb.mono HB.out.size))
  clear ht hb
  have hk := terms_new5 HT0.out HT1.out HT2.out HT3.out HT4.out
  have hb := below_alloc1 w5 (.cells #[.int .i64 (T.parse ⟨#[100, 97, 116, 97]⟩).1.kind, .string (T.parse ⟨#[100, 97, 116, 97]⟩).1.name, .slice A0 (T.parse ⟨#[100, 97, 116, 97]⟩).1.kids.length c0, .int .i64 (T.parse ⟨#[115, 105, 103, 110, 40, 115, 116, 97, 116, 101, 44, 32, 60, 100, 97, 116, 97, 44, 32, 112, 111, 119, 101, 114, 40, 99, 104, 105, 112, 41, 62, 41]⟩).1.kind, .string (T.parse ⟨#[115, 105, 103, 110, 40, 115, 116, 97, 116, 101, 44, 32, 60, 100, 97, 116, 97, 44, 32, 112, 111, 119, 101, 114, 40, 99, 104, 105, 112, 41, 62, 41]⟩).1.name, .slice A1 (T.parse ⟨#[115, 105, 103, 110, 40, 115, 116, 97, 116, 101, 44, 32, 60, 100, 97, 116, 97, 44, 32, 112, 111, 119, 101, 114, 40, 99, 104, 105, 112, 41, 62, 41]⟩).1.kids.length c1, .int .i64 (T.parse ⟨#[112, 111, 119, 101, 114, 40, 115, 116, 97, 116, 101, 41]⟩).1.kind, .string (T.parse ⟨#[112, 111, 119, 101, 114, 40, 115, 116, 97, 116, 101, 41]⟩).1.name, .slice A2 (T.parse ⟨#[112, 111, 119, 101, 114, 40, 115, 116, 97, 116, 101, 41]⟩).1.kids.length c2, .int .i64 (T.parse ⟨#[101, 118, 105, 108]⟩).1.kind, .string (T.parse ⟨#[101, 118, 105, 108]⟩).1.name, .slice A3 (T.parse ⟨#[101, 118, 105, 108]⟩).1.kids.length c3, .int .i64 (T.parse ⟨#[112, 111, 119, 101, 114, 40, 101, 118, 105, 108, 41]⟩).1.kind, .string (T.parse ⟨#[112, 111, 119, 101, 114, 40, 101, 118, 105, 108, 41]⟩).1.name, .slice A4 (T.parse ⟨#[112, 111, 119, 101, 114, 40, 101, 118, 105, 108, 41]⟩).1.kids.length c4] 29)
  go_upto_region 3 with fail
  generalize w5.alloc (.cells #[.int .i64 (T.parse ⟨#[100, 97, 116, 97]⟩).1.kind, .string (T.parse ⟨#[100, 97, 116, 97]⟩).1.name, .slice A0 (T.parse ⟨#[100, 97, 116, 97]⟩).1.kids.length c0, .int .i64 (T.parse ⟨#[115, 105, 103, 110, 40, 115, 116, 97, 116, 101, 44, 32, 60, 100, 97, 116, 97, 44, 32, 112, 111, 119, 101, 114, 40, 99, 104, 105, 112, 41, 62, 41]⟩).1.kind, .string (T.parse ⟨#[115, 105, 103, 110, 40, 115, 116, 97, 116, 101, 44, 32, 60, 100, 97, 116, 97, 44, 32, 112, 111, 119, 101, 114, 40, 99, 104, 105, 112, 41, 62, 41]⟩).1.name, .slice A1 (T.parse ⟨#[115, 105, 103, 110, 40, 115, 116, 97, 116, 101, 44, 32, 60, 100, 97, 116, 97, 44, 32, 112, 111, 119, 101, 114, 40, 99, 104, 105, 112, 41, 62, 41]⟩).1.kids.length c1, .int .i64 (T.parse ⟨#[112, 111, 119, 101, 114, 40, 115, 116, 97, 116, 101, 41]⟩).1.kind, .string (T.parse ⟨#[112, 111, 119, 101, 114, 40, 115, 116, 97, 116, 101, 41]⟩).1.name, .slice A2 (T.parse ⟨#[112, 111, 119, 101, 114, 40, 115, 116, 97, 116, 101, 41]⟩).1.kids.length c2, .int .i64 (T.parse ⟨#[101, 118, 105, 108]⟩).1.kind, .string (T.parse ⟨#[101, 118, 105, 108]⟩).1.name, .slice A3 (T.parse ⟨#[101, 118, 105, 108]⟩).1.kids.length c3, .int .i64 (T.parse ⟨#[112, 111, 119, 101, 114, 40, 101, 118, 105, 108, 41]⟩).1.kind, .string (T.parse ⟨#[112, 111, 119, 101, 114, 40, 101, 118, 105, 108, 41]⟩).1.name, .slice A4 (T.parse ⟨#[112, 111, 119, 101, 114, 40, 101, 118, 105, 108, 41]⟩).1.kids.length c4] 29) = v0 at hk hb ⊢
  change TermsL v0 _ m_known at hk
  have HK := Lib.hid hk; have HB := Lib.hid (HB.out.trans (hb.mono HB.out.size))
  clear hk hb HT0 HT1 HT2 HT3 HT4
  have hadd := HADD.out
  go_wp2_with fail
  refine (rstrand b_chip x_cP (some ⟨v0.heap.size, 0, none⟩) 2 _ (by decide) (texts_new v0 x_cP) (good_all _ (by kernel_rfl)) m_cP rfl).mono ?_; rintro e u0 ⟨B0, d0, rfl, hm, hb⟩
  clear hadd
  have hb1 := (below_alloc1 v0 (.cells (x_cP.map Value.string).toArray 9)).trans (hb.mono (by rw [size_alloc1]; omega))
  have hbx := SBox.new u0 (.string s_cP.1) (.slice B0 s_cP.2.length d0)
  have hb2 := hb1.trans ((below_alloc1 u0 (.cells #[.string s_cP.1, .slice B0 s_cP.2.length d0] 49)).mono hb1.size)
  have hmx := hm.at.later (below_alloc1 u0 (.cells #[.string s_cP.1, .slice B0 s_cP.2.length d0] 49))
  go_upto_region 4 with fail
  change MovesAt (u0.alloc (.cells #[.string b_chip, .slice B0 m_cP.length d0] 49)) B0 m_cP at hmx
  change SBox (u0.alloc (.cells #[.string b_chip, .slice B0 m_cP.length d0] 49)) _ _ _ at hbx
  change Below _ _ (u0.alloc (.cells #[.string b_chip, .slice B0 m_cP.length d0] 49)) at hb2
  generalize u0.alloc (.cells #[.string b_chip, .slice B0 m_cP.length d0] 49) = v1 at hbx hmx hb2 ⊢
  have HX0 := Lib.hid hbx; have HM0 := Lib.hid hmx; have HK := Lib.hid (TermAt.later HK.out hb2); have HB := Lib.hid (HB.out.trans (hb2.mono HB.out.size))
  clear hbx hmx hb2 hb1 hb hm
  go_wp2_with fail
  refine (rstrand b_reader x_rP (some ⟨v1.heap.size, 0, none⟩) 2 _ (by decide) (texts_new v1 x_rP) (good_all _ (by kernel_rfl)) m_rP rfl).mono ?_; rintro e u1 ⟨B1, d1, rfl, hm, hb⟩
  have hb1 := (below_alloc1 v1 (.cells (x_rP.map Value.string).toArray 9)).trans (hb.mono (by rw [size_alloc1]; omega))
  have hbx := SBox.new u1 (.string s_rP.1) (.slice B1 s_rP.2.length d1)
  have hb2 := hb1.trans ((below_alloc1 u1 (.cells #[.string s_rP.1, .slice B1 s_rP.2.length d1] 49)).mono hb1.size)
  have hmx := hm.at.later (below_alloc1 u1 (.cells #[.string s_rP.1, .slice B1 s_rP.2.length d1] 49))
  go_upto_region 5 with fail
  change MovesAt (u1.alloc (.cells #[.string b_reader, .slice B1 m_rP.length d1] 49)) B1 m_rP at hmx
  change SBox (u1.alloc (.cells #[.string b_reader, .slice B1 m_rP.length d1] 49)) _ _ _ at hbx
  change Below _ _ (u1.alloc (.cells #[.string b_reader, .slice B1 m_rP.length d1] 49)) at hb2
  generalize u1.alloc (.cells #[.string b_reader, .slice B1 m_rP.length d1] 49) = v2 at hbx hmx hb2 ⊢
  have HX0 := Lib.hid (HX0.out.later hb2); have HM0 := Lib.hid (HM0.out.later hb2)
  have HX1 := Lib.hid hbx; have HM1 := Lib.hid hmx; have HK := Lib.hid (TermAt.later HK.out hb2); have HB := Lib.hid (HB.out.trans (hb2.mono HB.out.size))
  clear hbx hmx hb2 hb1 hb hm
  have hadd := HADD.out
  go_wp2_with fail
  refine (rstrand b_chip x_cA (some ⟨v2.heap.size, 0, none⟩) 4 _ (by decide) (texts_new v2 x_cA) (good_all _ (by kernel_rfl)) m_cA rfl).mono ?_; rintro e u2 ⟨B2, d2, rfl, hm, hb⟩
  clear hadd
  have hb1 := (below_alloc1 v2 (.cells (x_cA.map Value.string).toArray 9)).trans (hb.mono (by rw [size_alloc1]; omega))
  have hbx := SBox.new u2 (.string s_cA.1) (.slice B2 s_cA.2.length d2)
  have hb2 := hb1.trans ((below_alloc1 u2 (.cells #[.string s_cA.1, .slice B2 s_cA.2.length d2] 49)).mono hb1.size)
  have hmx := hm.at.later (below_alloc1 u2 (.cells #[.string s_cA.1, .slice B2 s_cA.2.length d2] 49))
  go_upto_region 6 with fail
  change MovesAt (u2.alloc (.cells #[.string b_chip, .slice B2 m_cA.length d2] 49)) B2 m_cA at hmx
  change SBox (u2.alloc (.cells #[.string b_chip, .slice B2 m_cA.length d2] 49)) _ _ _ at hbx
  change Below _ _ (u2.alloc (.cells #[.string b_chip, .slice B2 m_cA.length d2] 49)) at hb2
  generalize u2.alloc (.cells #[.string b_chip, .slice B2 m_cA.length d2] 49) = v3 at hbx hmx hb2 ⊢
  have HX0 := Lib.hid (HX0.out.later hb2); have HM0 := Lib.hid (HM0.out.later hb2)
  have HX1 := Lib.hid (HX1.out.later hb2); have HM1 := Lib.hid (HM1.out.later hb2)
  have HX2 := Lib.hid hbx; have HM2 := Lib.hid hmx; have HK := Lib.hid (TermAt.later HK.out hb2); have HB := Lib.hid (HB.out.trans (hb2.mono HB.out.size))
  clear hbx hmx hb2 hb1 hb hm
  go_wp2_with fail
  refine (rstrand b_reader x_rA (some ⟨v3.heap.size, 0, none⟩) 4 _ (by decide) (texts_new v3 x_rA) (good_all _ (by kernel_rfl)) m_rA rfl).mono ?_; rintro e u3 ⟨B3, d3, rfl, hm, hb⟩
  have hb1 := (below_alloc1 v3 (.cells (x_rA.map Value.string).toArray 9)).trans (hb.mono (by rw [size_alloc1]; omega))
  have hbx := SBox.new u3 (.string s_rA.1) (.slice B3 s_rA.2.length d3)
  have hb2 := hb1.trans ((below_alloc1 u3 (.cells #[.string s_rA.1, .slice B3 s_rA.2.length d3] 49)).mono hb1.size)
  have hmx := hm.at.later (below_alloc1 u3 (.cells #[.string s_rA.1, .slice B3 s_rA.2.length d3] 49))
  go_upto_region 8 with fail
  change MovesAt (u3.alloc (.cells #[.string b_reader, .slice B3 m_rA.length d3] 49)) B3 m_rA at hmx
  change SBox (u3.alloc (.cells #[.string b_reader, .slice B3 m_rA.length d3] 49)) _ _ _ at hbx
  change Below _ _ (u3.alloc (.cells #[.string b_reader, .slice B3 m_rA.length d3] 49)) at hb2
  generalize u3.alloc (.cells #[.string b_reader, .slice B3 m_rA.length d3] 49) = v4 at hbx hmx hb2 ⊢
  have HX0 := Lib.hid (HX0.out.later hb2); have HM0 := Lib.hid (HM0.out.later hb2)
  have HX1 := Lib.hid (HX1.out.later hb2); have HM1 := Lib.hid (HM1.out.later hb2)
  have HX2 := Lib.hid (HX2.out.later hb2); have HM2 := Lib.hid (HM2.out.later hb2)
  have HX3 := Lib.hid hbx; have HM3 := Lib.hid hmx; have HK := Lib.hid (TermAt.later HK.out hb2); have HB := Lib.hid (HB.out.trans (hb2.mono HB.out.size))
  clear hbx hmx hb2 hb1 hb hm
  obtain ⟨q2, r2⟩ := HX2.out.cells
  obtain ⟨q3, r3⟩ := HX3.out.cells
  have hst := strands_new2 (s0 := s_cA) (A0 := B2) (c0 := d2) (s1 := s_rA) (A1 := B3) (c1 := d3) HM2.out HM3.out
  have hb := below_alloc1 v4 (.cells #[.string s_cA.1, .slice B2 s_cA.2.length d2, .string s_rA.1, .slice B3 s_rA.2.length d3] 49)
  have HST := Lib.hid hst; have HBF := Lib.hid hb
  clear hst hb
  go_wp2_with fail
  refine bodyPost_ret (v := .tuple #[.slice (some ⟨v4.heap.size, 0, none⟩) 2 2, .slice (some ⟨w5.heap.size, 0, none⟩) 5 5, .bool true]) (by simp [results, Tryz.results31, go_sem]; try rfl) rfl ?_
  exact ⟨_, _, _, _, rfl, HST.out, TermAt.later HK.out HBF.out, HB.out.trans (HBF.out.mono HB.out.size)⟩
set_option maxRecDepth 100000 in
set_option maxHeartbeats 8000000 in
theorem rproto_exchange (w : World) : Calls Tryz.prog 31 #[.string b_exchange] w (ProtoPost [s_cE, s_rE] m_known w) := by
  have hadd : (⟨#[83, 32]⟩ : ByteArray) ++ ⟨#[115, 105, 103, 110, 40, 115, 116, 97, 116, 101, 44, 32, 60, 100, 97, 116, 97, 44, 32, 112, 111, 119, 101, 114, 40, 99, 104, 105, 112, 41, 62, 41]⟩ = ⟨#[83, 32, 115, 105, 103, 110, 40, 115, 116, 97, 116, 101, 44, 32, 60, 100, 97, 116, 97, 44, 32, 112, 111, 119, 101, 114, 40, 99, 104, 105, 112, 41, 62, 41]⟩ := by kernel_rfl
  have HADD := Lib.hid hadd
  clear hadd
  go_enter Tryz.func31, Tryz.ntmps31
  go_wp2_with fail
  refine (ref_term ⟨#[100, 97, 116, 97]⟩ _).mono ?_; rintro e w1 ⟨A0, c0, rfl, ht, hb⟩
  have HT0 := Lib.hid ht.at
  have HB := Lib.hid (hb)
  clear ht hb
  go_wp2_with fail
  refine (ref_term ⟨#[115, 105, 103, 110, 40, 115, 116, 97, 116, 101, 44, 32, 60, 100, 97, 116, 97, 44, 32, 112, 111, 119, 101, 114, 40, 99, 104, 105, 112, 41, 62, 41]⟩ _).mono ?_; rintro e w2 ⟨A1, c1, rfl, ht, hb⟩
  have HT0 := Lib.hid (TermAt.later HT0.out hb)
  have HT1 := Lib.hid ht.at
  have HB := Lib.hid (HB.out.trans (hb.mono HB.out.size))
  clear ht hb
  go_wp2_with fail
  refine (ref_term ⟨#[112, 111, 119, 101, 114, 40, 115, 116, 97, 116, 101, 41]⟩ _).mono ?_; rintro e w3 ⟨A2, c2, rfl, ht, hb⟩
  have HT0 := Lib.hid (TermAt.later HT0.out hb)
  have HT1 := Lib.hid (TermAt.later HT1.out hb)
  have HT2 := Lib.hid ht.at
  have HB := Lib.hid (HB.out.trans (hb.mono HB.out.size))
  clear ht hb
  go_wp2_with fail
  refine (ref_term ⟨#[101, 118, 105, 108]⟩ _).mono ?_; rintro e w4 ⟨A3, c3, rfl, ht, hb⟩
  have HT0 := Lib.hid (TermAt.later HT0.out hb)
  have HT1 := Lib.hid (TermAt.later HT1.out hb)
  have HT2 := Lib.hid (TermAt.later HT2.out hb)
  have HT3 := Lib.hid ht.at
  have HB := Lib.hid (HB.out.trans (hb.mono HB.out.size))
  clear ht hb
  go_wp2_with fail
  refine (ref_term ⟨#[112, 111, 119, 101, 114, 40, 101, 118, 105, 108, 41]⟩ _).mono ?_; rintro e w5 ⟨A4, c4, rfl, ht, hb⟩
  have HT0 := Lib.hid (TermAt.later HT0.out hb)
  have HT1 := Lib.hid (TermAt.later HT1.out hb)
  have HT2 := Lib.hid (TermAt.later HT2.out hb)
  have HT3 := Lib.hid (TermAt.later HT3.out hb)
  have HT4 := Lib.hid ht.at
  have HB := Lib.hid (HB.out.trans (hb.mono HB.out.size))
  clear ht hb
  have hk := terms_new5 HT0.out HT1.out HT2.out HT3.out HT4.out
  have hb := below_alloc1 w5 (.cells #[.int .i64 (T.parse ⟨#[100, 97, 116, 97]⟩).1.kind, .string (T.parse ⟨#[100, 97, 116, 97]⟩).1.name, .slice A0 (T.parse ⟨#[100, 97, 116, 97]⟩).1.kids.length c0, .int .i64 (T.parse ⟨#[115, 105, 103, 110, 40, 115, 116, 97, 116, 101, 44, 32, 60, 100, 97, 116, 97, 44, 32, 112, 111, 119, 101, 114, 40, 99, 104, 105, 112, 41, 62, 41]⟩).1.kind, .string (T.parse ⟨#[115, 105, 103, 110, 40, 115, 116, 97, 116, 101, 44, 32, 60, 100, 97, 116, 97, 44, 32, 112, 111, 119, 101, 114, 40, 99, 104, 105, 112, 41, 62, 41]⟩).1.name, .slice A1 (T.parse ⟨#[115, 105, 103, 110, 40, 115, 116, 97, 116, 101, 44, 32, 60, 100, 97, 116, 97, 44, 32, 112, 111, 119, 101, 114, 40, 99, 104, 105, 112, 41, 62, 41]⟩).1.kids.length c1, .int .i64 (T.parse ⟨#[112, 111, 119, 101, 114, 40, 115, 116, 97, 116, 101, 41]⟩).1.kind, .string (T.parse ⟨#[112, 111, 119, 101, 114, 40, 115, 116, 97, 116, 101, 41]⟩).1.name, .slice A2 (T.parse ⟨#[112, 111, 119, 101, 114, 40, 115, 116, 97, 116, 101, 41]⟩).1.kids.length c2, .int .i64 (T.parse ⟨#[101, 118, 105, 108]⟩).1.kind, .string (T.parse ⟨#[101, 118, 105, 108]⟩).1.name, .slice A3 (T.parse ⟨#[101, 118, 105, 108]⟩).1.kids.length c3, .int .i64 (T.parse ⟨#[112, 111, 119, 101, 114, 40, 101, 118, 105, 108, 41]⟩).1.kind, .string (T.parse ⟨#[112, 111, 119, 101, 114, 40, 101, 118, 105, 108, 41]⟩).1.name, .slice A4 (T.parse ⟨#[112, 111, 119, 101, 114, 40, 101, 118, 105, 108, 41]⟩).1.kids.length c4] 29)
  go_upto_region 3 with fail
  generalize w5.alloc (.cells #[.int .i64 (T.parse ⟨#[100, 97, 116, 97]⟩).1.kind, .string (T.parse ⟨#[100, 97, 116, 97]⟩).1.name, .slice A0 (T.parse ⟨#[100, 97, 116, 97]⟩).1.kids.length c0, .int .i64 (T.parse ⟨#[115, 105, 103, 110, 40, 115, 116, 97, 116, 101, 44, 32, 60, 100, 97, 116, 97, 44, 32, 112, 111, 119, 101, 114, 40, 99, 104, 105, 112, 41, 62, 41]⟩).1.kind, .string (T.parse ⟨#[115, 105, 103, 110, 40, 115, 116, 97, 116, 101, 44, 32, 60, 100, 97, 116, 97, 44, 32, 112, 111, 119, 101, 114, 40, 99, 104, 105, 112, 41, 62, 41]⟩).1.name, .slice A1 (T.parse ⟨#[115, 105, 103, 110, 40, 115, 116, 97, 116, 101, 44, 32, 60, 100, 97, 116, 97, 44, 32, 112, 111, 119, 101, 114, 40, 99, 104, 105, 112, 41, 62, 41]⟩).1.kids.length c1, .int .i64 (T.parse ⟨#[112, 111, 119, 101, 114, 40, 115, 116, 97, 116, 101, 41]⟩).1.kind, .string (T.parse ⟨#[112, 111, 119, 101, 114, 40, 115, 116, 97, 116, 101, 41]⟩).1.name, .slice A2 (T.parse ⟨#[112, 111, 119, 101, 114, 40, 115, 116, 97, 116, 101, 41]⟩).1.kids.length c2, .int .i64 (T.parse ⟨#[101, 118, 105, 108]⟩).1.kind, .string (T.parse ⟨#[101, 118, 105, 108]⟩).1.name, .slice A3 (T.parse ⟨#[101, 118, 105, 108]⟩).1.kids.length c3, .int .i64 (T.parse ⟨#[112, 111, 119, 101, 114, 40, 101, 118, 105, 108, 41]⟩).1.kind, .string (T.parse ⟨#[112, 111, 119, 101, 114, 40, 101, 118, 105, 108, 41]⟩).1.name, .slice A4 (T.parse ⟨#[112, 111, 119, 101, 114, 40, 101, 118, 105, 108, 41]⟩).1.kids.length c4] 29) = v0 at hk hb ⊢
  change TermsL v0 _ m_known at hk
  have HK := Lib.hid hk; have HB := Lib.hid (HB.out.trans (hb.mono HB.out.size))
  clear hk hb HT0 HT1 HT2 HT3 HT4
  have hadd := HADD.out
  go_wp2_with fail
  refine (rstrand b_chip x_cP (some ⟨v0.heap.size, 0, none⟩) 2 _ (by decide) (texts_new v0 x_cP) (good_all _ (by kernel_rfl)) m_cP rfl).mono ?_; rintro e u0 ⟨B0, d0, rfl, hm, hb⟩
  clear hadd
  have hb1 := (below_alloc1 v0 (.cells (x_cP.map Value.string).toArray 9)).trans (hb.mono (by rw [size_alloc1]; omega))
  have hbx := SBox.new u0 (.string s_cP.1) (.slice B0 s_cP.2.length d0)
  have hb2 := hb1.trans ((below_alloc1 u0 (.cells #[.string s_cP.1, .slice B0 s_cP.2.length d0] 49)).mono hb1.size)
  have hmx := hm.at.later (below_alloc1 u0 (.cells #[.string s_cP.1, .slice B0 s_cP.2.length d0] 49))
  go_upto_region 4 with fail
  change MovesAt (u0.alloc (.cells #[.string b_chip, .slice B0 m_cP.length d0] 49)) B0 m_cP at hmx
  change SBox (u0.alloc (.cells #[.string b_chip, .slice B0 m_cP.length d0] 49)) _ _ _ at hbx
  change Below _ _ (u0.alloc (.cells #[.string b_chip, .slice B0 m_cP.length d0] 49)) at hb2
  generalize u0.alloc (.cells #[.string b_chip, .slice B0 m_cP.length d0] 49) = v1 at hbx hmx hb2 ⊢
  have HX0 := Lib.hid hbx; have HM0 := Lib.hid hmx; have HK := Lib.hid (TermAt.later HK.out hb2); have HB := Lib.hid (HB.out.trans (hb2.mono HB.out.size))
  clear hbx hmx hb2 hb1 hb hm
  go_wp2_with fail
  refine (rstrand b_reader x_rP (some ⟨v1.heap.size, 0, none⟩) 2 _ (by decide) (texts_new v1 x_rP) (good_all _ (by kernel_rfl)) m_rP rfl).mono ?_; rintro e u1 ⟨B1, d1, rfl, hm, hb⟩
  have hb1 := (below_alloc1 v1 (.cells (x_rP.map Value.string).toArray 9)).trans (hb.mono (by rw [size_alloc1]; omega))
  have hbx := SBox.new u1 (.string s_rP.1) (.slice B1 s_rP.2.length d1)
  have hb2 := hb1.trans ((below_alloc1 u1 (.cells #[.string s_rP.1, .slice B1 s_rP.2.length d1] 49)).mono hb1.size)
  have hmx := hm.at.later (below_alloc1 u1 (.cells #[.string s_rP.1, .slice B1 s_rP.2.length d1] 49))
  go_upto_region 5 with fail
  change MovesAt (u1.alloc (.cells #[.string b_reader, .slice B1 m_rP.length d1] 49)) B1 m_rP at hmx
  change SBox (u1.alloc (.cells #[.string b_reader, .slice B1 m_rP.length d1] 49)) _ _ _ at hbx
  change Below _ _ (u1.alloc (.cells #[.string b_reader, .slice B1 m_rP.length d1] 49)) at hb2
  generalize u1.alloc (.cells #[.string b_reader, .slice B1 m_rP.length d1] 49) = v2 at hbx hmx hb2 ⊢
  have HX0 := Lib.hid (HX0.out.later hb2); have HM0 := Lib.hid (HM0.out.later hb2)
  have HX1 := Lib.hid hbx; have HM1 := Lib.hid hmx; have HK := Lib.hid (TermAt.later HK.out hb2); have HB := Lib.hid (HB.out.trans (hb2.mono HB.out.size))
  clear hbx hmx hb2 hb1 hb hm
  have hadd := HADD.out
  go_wp2_with fail
  refine (rstrand b_chip x_cA (some ⟨v2.heap.size, 0, none⟩) 4 _ (by decide) (texts_new v2 x_cA) (good_all _ (by kernel_rfl)) m_cA rfl).mono ?_; rintro e u2 ⟨B2, d2, rfl, hm, hb⟩
  clear hadd
  have hb1 := (below_alloc1 v2 (.cells (x_cA.map Value.string).toArray 9)).trans (hb.mono (by rw [size_alloc1]; omega))
  have hbx := SBox.new u2 (.string s_cA.1) (.slice B2 s_cA.2.length d2)
  have hb2 := hb1.trans ((below_alloc1 u2 (.cells #[.string s_cA.1, .slice B2 s_cA.2.length d2] 49)).mono hb1.size)
  have hmx := hm.at.later (below_alloc1 u2 (.cells #[.string s_cA.1, .slice B2 s_cA.2.length d2] 49))
  go_upto_region 6 with fail
  change MovesAt (u2.alloc (.cells #[.string b_chip, .slice B2 m_cA.length d2] 49)) B2 m_cA at hmx
  change SBox (u2.alloc (.cells #[.string b_chip, .slice B2 m_cA.length d2] 49)) _ _ _ at hbx
  change Below _ _ (u2.alloc (.cells #[.string b_chip, .slice B2 m_cA.length d2] 49)) at hb2
  generalize u2.alloc (.cells #[.string b_chip, .slice B2 m_cA.length d2] 49) = v3 at hbx hmx hb2 ⊢
  have HX0 := Lib.hid (HX0.out.later hb2); have HM0 := Lib.hid (HM0.out.later hb2)
  have HX1 := Lib.hid (HX1.out.later hb2); have HM1 := Lib.hid (HM1.out.later hb2)
  have HX2 := Lib.hid hbx; have HM2 := Lib.hid hmx; have HK := Lib.hid (TermAt.later HK.out hb2); have HB := Lib.hid (HB.out.trans (hb2.mono HB.out.size))
  clear hbx hmx hb2 hb1 hb hm
  go_wp2_with fail
  refine (rstrand b_reader x_rA (some ⟨v3.heap.size, 0, none⟩) 4 _ (by decide) (texts_new v3 x_rA) (good_all _ (by kernel_rfl)) m_rA rfl).mono ?_; rintro e u3 ⟨B3, d3, rfl, hm, hb⟩
  have hb1 := (below_alloc1 v3 (.cells (x_rA.map Value.string).toArray 9)).trans (hb.mono (by rw [size_alloc1]; omega))
  have hbx := SBox.new u3 (.string s_rA.1) (.slice B3 s_rA.2.length d3)
  have hb2 := hb1.trans ((below_alloc1 u3 (.cells #[.string s_rA.1, .slice B3 s_rA.2.length d3] 49)).mono hb1.size)
  have hmx := hm.at.later (below_alloc1 u3 (.cells #[.string s_rA.1, .slice B3 s_rA.2.length d3] 49))
  go_upto_region 8 with fail
  change MovesAt (u3.alloc (.cells #[.string b_reader, .slice B3 m_rA.length d3] 49)) B3 m_rA at hmx
  change SBox (u3.alloc (.cells #[.string b_reader, .slice B3 m_rA.length d3] 49)) _ _ _ at hbx
  change Below _ _ (u3.alloc (.cells #[.string b_reader, .slice B3 m_rA.length d3] 49)) at hb2
  generalize u3.alloc (.cells #[.string b_reader, .slice B3 m_rA.length d3] 49) = v4 at hbx hmx hb2 ⊢
  have HX0 := Lib.hid (HX0.out.later hb2); have HM0 := Lib.hid (HM0.out.later hb2)
  have HX1 := Lib.hid (HX1.out.later hb2); have HM1 := Lib.hid (HM1.out.later hb2)
  have HX2 := Lib.hid (HX2.out.later hb2); have HM2 := Lib.hid (HM2.out.later hb2)
  have HX3 := Lib.hid hbx; have HM3 := Lib.hid hmx; have HK := Lib.hid (TermAt.later HK.out hb2); have HB := Lib.hid (HB.out.trans (hb2.mono HB.out.size))
  clear hbx hmx hb2 hb1 hb hm
  have hadd := HADD.out
  go_wp2_with fail
  refine (rstrand b_chip x_cE (some ⟨v4.heap.size, 0, none⟩) 4 _ (by decide) (texts_new v4 x_cE) (good_all _ (by kernel_rfl)) m_cE rfl).mono ?_; rintro e u4 ⟨B4, d4, rfl, hm, hb⟩
  clear hadd
  have hb1 := (below_alloc1 v4 (.cells (x_cE.map Value.string).toArray 9)).trans (hb.mono (by rw [size_alloc1]; omega))
  have hbx := SBox.new u4 (.string s_cE.1) (.slice B4 s_cE.2.length d4)
  have hb2 := hb1.trans ((below_alloc1 u4 (.cells #[.string s_cE.1, .slice B4 s_cE.2.length d4] 49)).mono hb1.size)
  have hmx := hm.at.later (below_alloc1 u4 (.cells #[.string s_cE.1, .slice B4 s_cE.2.length d4] 49))
  go_upto_region 14 with fail
  change MovesAt (u4.alloc (.cells #[.string b_chip, .slice B4 m_cE.length d4] 49)) B4 m_cE at hmx
  change SBox (u4.alloc (.cells #[.string b_chip, .slice B4 m_cE.length d4] 49)) _ _ _ at hbx
  change Below _ _ (u4.alloc (.cells #[.string b_chip, .slice B4 m_cE.length d4] 49)) at hb2
  generalize u4.alloc (.cells #[.string b_chip, .slice B4 m_cE.length d4] 49) = v5 at hbx hmx hb2 ⊢
  have HX0 := Lib.hid (HX0.out.later hb2); have HM0 := Lib.hid (HM0.out.later hb2)
  have HX1 := Lib.hid (HX1.out.later hb2); have HM1 := Lib.hid (HM1.out.later hb2)
  have HX2 := Lib.hid (HX2.out.later hb2); have HM2 := Lib.hid (HM2.out.later hb2)
  have HX3 := Lib.hid (HX3.out.later hb2); have HM3 := Lib.hid (HM3.out.later hb2)
  have HX4 := Lib.hid hbx; have HM4 := Lib.hid hmx; have HK := Lib.hid (TermAt.later HK.out hb2); have HB := Lib.hid (HB.out.trans (hb2.mono HB.out.size))
  clear hbx hmx hb2 hb1 hb hm
  go_wp2_with fail
  refine (rstrand b_reader x_rE (some ⟨v5.heap.size, 0, none⟩) 4 _ (by decide) (texts_new v5 x_rE) (good_all _ (by kernel_rfl)) m_rE rfl).mono ?_; rintro e u5 ⟨B5, d5, rfl, hm, hb⟩
  have hb1 := (below_alloc1 v5 (.cells (x_rE.map Value.string).toArray 9)).trans (hb.mono (by rw [size_alloc1]; omega))
  have hbx := SBox.new u5 (.string s_rE.1) (.slice B5 s_rE.2.length d5)
  have hb2 := hb1.trans ((below_alloc1 u5 (.cells #[.string s_rE.1, .slice B5 s_rE.2.length d5] 49)).mono hb1.size)
  have hmx := hm.at.later (below_alloc1 u5 (.cells #[.string s_rE.1, .slice B5 s_rE.2.length d5] 49))
  go_upto_region 15 with fail
  change MovesAt (u5.alloc (.cells #[.string b_reader, .slice B5 m_rE.length d5] 49)) B5 m_rE at hmx
  change SBox (u5.alloc (.cells #[.string b_reader, .slice B5 m_rE.length d5] 49)) _ _ _ at hbx
  change Below _ _ (u5.alloc (.cells #[.string b_reader, .slice B5 m_rE.length d5] 49)) at hb2
  generalize u5.alloc (.cells #[.string b_reader, .slice B5 m_rE.length d5] 49) = v6 at hbx hmx hb2 ⊢
  have HX0 := Lib.hid (HX0.out.later hb2); have HM0 := Lib.hid (HM0.out.later hb2)
  have HX1 := Lib.hid (HX1.out.later hb2); have HM1 := Lib.hid (HM1.out.later hb2)
  have HX2 := Lib.hid (HX2.out.later hb2); have HM2 := Lib.hid (HM2.out.later hb2)
  have HX3 := Lib.hid (HX3.out.later hb2); have HM3 := Lib.hid (HM3.out.later hb2)
  have HX4 := Lib.hid (HX4.out.later hb2); have HM4 := Lib.hid (HM4.out.later hb2)
  have HX5 := Lib.hid hbx; have HM5 := Lib.hid hmx; have HK := Lib.hid (TermAt.later HK.out hb2); have HB := Lib.hid (HB.out.trans (hb2.mono HB.out.size))
  clear hbx hmx hb2 hb1 hb hm
  obtain ⟨q4, r4⟩ := HX4.out.cells
  obtain ⟨q5, r5⟩ := HX5.out.cells
  have hst := strands_new2 (s0 := s_cE) (A0 := B4) (c0 := d4) (s1 := s_rE) (A1 := B5) (c1 := d5) HM4.out HM5.out
  have hb := below_alloc1 v6 (.cells #[.string s_cE.1, .slice B4 s_cE.2.length d4, .string s_rE.1, .slice B5 s_rE.2.length d5] 49)
  have HST := Lib.hid hst; have HBF := Lib.hid hb
  clear hst hb
  go_wp2_with fail
  refine bodyPost_ret (v := .tuple #[.slice (some ⟨v6.heap.size, 0, none⟩) 2 2, .slice (some ⟨w5.heap.size, 0, none⟩) 5 5, .bool true]) (by simp [results, Tryz.results31, go_sem]; try rfl) rfl ?_
  exact ⟨_, _, _, _, rfl, HST.out, TermAt.later HK.out HBF.out, HB.out.trans (HBF.out.mono HB.out.size)⟩
set_option maxRecDepth 100000 in
set_option maxHeartbeats 8000000 in
theorem rproto_blind (w : World) : Calls Tryz.prog 31 #[.string b_blind] w (ProtoPost [s_cA, s_cA, s_rA] m_known w) := by
  have hadd : (⟨#[83, 32]⟩ : ByteArray) ++ ⟨#[115, 105, 103, 110, 40, 115, 116, 97, 116, 101, 44, 32, 60, 100, 97, 116, 97, 44, 32, 112, 111, 119, 101, 114, 40, 99, 104, 105, 112, 41, 62, 41]⟩ = ⟨#[83, 32, 115, 105, 103, 110, 40, 115, 116, 97, 116, 101, 44, 32, 60, 100, 97, 116, 97, 44, 32, 112, 111, 119, 101, 114, 40, 99, 104, 105, 112, 41, 62, 41]⟩ := by kernel_rfl
  have HADD := Lib.hid hadd
  clear hadd
  go_enter Tryz.func31, Tryz.ntmps31
  go_wp2_with fail
  refine (ref_term ⟨#[100, 97, 116, 97]⟩ _).mono ?_; rintro e w1 ⟨A0, c0, rfl, ht, hb⟩
  have HT0 := Lib.hid ht.at
  have HB := Lib.hid (hb)
  clear ht hb
  go_wp2_with fail
  refine (ref_term ⟨#[115, 105, 103, 110, 40, 115, 116, 97, 116, 101, 44, 32, 60, 100, 97, 116, 97, 44, 32, 112, 111, 119, 101, 114, 40, 99, 104, 105, 112, 41, 62, 41]⟩ _).mono ?_; rintro e w2 ⟨A1, c1, rfl, ht, hb⟩
  have HT0 := Lib.hid (TermAt.later HT0.out hb)
  have HT1 := Lib.hid ht.at
  have HB := Lib.hid (HB.out.trans (hb.mono HB.out.size))
  clear ht hb
  go_wp2_with fail
  refine (ref_term ⟨#[112, 111, 119, 101, 114, 40, 115, 116, 97, 116, 101, 41]⟩ _).mono ?_; rintro e w3 ⟨A2, c2, rfl, ht, hb⟩
  have HT0 := Lib.hid (TermAt.later HT0.out hb)
  have HT1 := Lib.hid (TermAt.later HT1.out hb)
  have HT2 := Lib.hid ht.at
  have HB := Lib.hid (HB.out.trans (hb.mono HB.out.size))
  clear ht hb
  go_wp2_with fail
  refine (ref_term ⟨#[101, 118, 105, 108]⟩ _).mono ?_; rintro e w4 ⟨A3, c3, rfl, ht, hb⟩
  have HT0 := Lib.hid (TermAt.later HT0.out hb)
  have HT1 := Lib.hid (TermAt.later HT1.out hb)
  have HT2 := Lib.hid (TermAt.later HT2.out hb)
  have HT3 := Lib.hid ht.at
  have HB := Lib.hid (HB.out.trans (hb.mono HB.out.size))
  clear ht hb
  go_wp2_with fail
  refine (ref_term ⟨#[112, 111, 119, 101, 114, 40, 101, 118, 105, 108, 41]⟩ _).mono ?_; rintro e w5 ⟨A4, c4, rfl, ht, hb⟩
  have HT0 := Lib.hid (TermAt.later HT0.out hb)
  have HT1 := Lib.hid (TermAt.later HT1.out hb)
  have HT2 := Lib.hid (TermAt.later HT2.out hb)
  have HT3 := Lib.hid (TermAt.later HT3.out hb)
  have HT4 := Lib.hid ht.at
  have HB := Lib.hid (HB.out.trans (hb.mono HB.out.size))
  clear ht hb
  have hk := terms_new5 HT0.out HT1.out HT2.out HT3.out HT4.out
  have hb := below_alloc1 w5 (.cells #[.int .i64 (T.parse ⟨#[100, 97, 116, 97]⟩).1.kind, .string (T.parse ⟨#[100, 97, 116, 97]⟩).1.name, .slice A0 (T.parse ⟨#[100, 97, 116, 97]⟩).1.kids.length c0, .int .i64 (T.parse ⟨#[115, 105, 103, 110, 40, 115, 116, 97, 116, 101, 44, 32, 60, 100, 97, 116, 97, 44, 32, 112, 111, 119, 101, 114, 40, 99, 104, 105, 112, 41, 62, 41]⟩).1.kind, .string (T.parse ⟨#[115, 105, 103, 110, 40, 115, 116, 97, 116, 101, 44, 32, 60, 100, 97, 116, 97, 44, 32, 112, 111, 119, 101, 114, 40, 99, 104, 105, 112, 41, 62, 41]⟩).1.name, .slice A1 (T.parse ⟨#[115, 105, 103, 110, 40, 115, 116, 97, 116, 101, 44, 32, 60, 100, 97, 116, 97, 44, 32, 112, 111, 119, 101, 114, 40, 99, 104, 105, 112, 41, 62, 41]⟩).1.kids.length c1, .int .i64 (T.parse ⟨#[112, 111, 119, 101, 114, 40, 115, 116, 97, 116, 101, 41]⟩).1.kind, .string (T.parse ⟨#[112, 111, 119, 101, 114, 40, 115, 116, 97, 116, 101, 41]⟩).1.name, .slice A2 (T.parse ⟨#[112, 111, 119, 101, 114, 40, 115, 116, 97, 116, 101, 41]⟩).1.kids.length c2, .int .i64 (T.parse ⟨#[101, 118, 105, 108]⟩).1.kind, .string (T.parse ⟨#[101, 118, 105, 108]⟩).1.name, .slice A3 (T.parse ⟨#[101, 118, 105, 108]⟩).1.kids.length c3, .int .i64 (T.parse ⟨#[112, 111, 119, 101, 114, 40, 101, 118, 105, 108, 41]⟩).1.kind, .string (T.parse ⟨#[112, 111, 119, 101, 114, 40, 101, 118, 105, 108, 41]⟩).1.name, .slice A4 (T.parse ⟨#[112, 111, 119, 101, 114, 40, 101, 118, 105, 108, 41]⟩).1.kids.length c4] 29)
  go_upto_region 3 with fail
  generalize w5.alloc (.cells #[.int .i64 (T.parse ⟨#[100, 97, 116, 97]⟩).1.kind, .string (T.parse ⟨#[100, 97, 116, 97]⟩).1.name, .slice A0 (T.parse ⟨#[100, 97, 116, 97]⟩).1.kids.length c0, .int .i64 (T.parse ⟨#[115, 105, 103, 110, 40, 115, 116, 97, 116, 101, 44, 32, 60, 100, 97, 116, 97, 44, 32, 112, 111, 119, 101, 114, 40, 99, 104, 105, 112, 41, 62, 41]⟩).1.kind, .string (T.parse ⟨#[115, 105, 103, 110, 40, 115, 116, 97, 116, 101, 44, 32, 60, 100, 97, 116, 97, 44, 32, 112, 111, 119, 101, 114, 40, 99, 104, 105, 112, 41, 62, 41]⟩).1.name, .slice A1 (T.parse ⟨#[115, 105, 103, 110, 40, 115, 116, 97, 116, 101, 44, 32, 60, 100, 97, 116, 97, 44, 32, 112, 111, 119, 101, 114, 40, 99, 104, 105, 112, 41, 62, 41]⟩).1.kids.length c1, .int .i64 (T.parse ⟨#[112, 111, 119, 101, 114, 40, 115, 116, 97, 116, 101, 41]⟩).1.kind, .string (T.parse ⟨#[112, 111, 119, 101, 114, 40, 115, 116, 97, 116, 101, 41]⟩).1.name, .slice A2 (T.parse ⟨#[112, 111, 119, 101, 114, 40, 115, 116, 97, 116, 101, 41]⟩).1.kids.length c2, .int .i64 (T.parse ⟨#[101, 118, 105, 108]⟩).1.kind, .string (T.parse ⟨#[101, 118, 105, 108]⟩).1.name, .slice A3 (T.parse ⟨#[101, 118, 105, 108]⟩).1.kids.length c3, .int .i64 (T.parse ⟨#[112, 111, 119, 101, 114, 40, 101, 118, 105, 108, 41]⟩).1.kind, .string (T.parse ⟨#[112, 111, 119, 101, 114, 40, 101, 118, 105, 108, 41]⟩).1.name, .slice A4 (T.parse ⟨#[112, 111, 119, 101, 114, 40, 101, 118, 105, 108, 41]⟩).1.kids.length c4] 29) = v0 at hk hb ⊢
  change TermsL v0 _ m_known at hk
  have HK := Lib.hid hk; have HB := Lib.hid (HB.out.trans (hb.mono HB.out.size))
  clear hk hb HT0 HT1 HT2 HT3 HT4
  have hadd := HADD.out
  go_wp2_with fail
  refine (rstrand b_chip x_cP (some ⟨v0.heap.size, 0, none⟩) 2 _ (by decide) (texts_new v0 x_cP) (good_all _ (by kernel_rfl)) m_cP rfl).mono ?_; rintro e u0 ⟨B0, d0, rfl, hm, hb⟩
  clear hadd
  have hb1 := (below_alloc1 v0 (.cells (x_cP.map Value.string).toArray 9)).trans (hb.mono (by rw [size_alloc1]; omega))
  have hbx := SBox.new u0 (.string s_cP.1) (.slice B0 s_cP.2.length d0)
  have hb2 := hb1.trans ((below_alloc1 u0 (.cells #[.string s_cP.1, .slice B0 s_cP.2.length d0] 49)).mono hb1.size)
  have hmx := hm.at.later (below_alloc1 u0 (.cells #[.string s_cP.1, .slice B0 s_cP.2.length d0] 49))
  go_upto_region 4 with fail
  change MovesAt (u0.alloc (.cells #[.string b_chip, .slice B0 m_cP.length d0] 49)) B0 m_cP at hmx
  change SBox (u0.alloc (.cells #[.string b_chip, .slice B0 m_cP.length d0] 49)) _ _ _ at hbx
  change Below _ _ (u0.alloc (.cells #[.string b_chip, .slice B0 m_cP.length d0] 49)) at hb2
  generalize u0.alloc (.cells #[.string b_chip, .slice B0 m_cP.length d0] 49) = v1 at hbx hmx hb2 ⊢
  have HX0 := Lib.hid hbx; have HM0 := Lib.hid hmx; have HK := Lib.hid (TermAt.later HK.out hb2); have HB := Lib.hid (HB.out.trans (hb2.mono HB.out.size))
  clear hbx hmx hb2 hb1 hb hm
  go_wp2_with fail
  refine (rstrand b_reader x_rP (some ⟨v1.heap.size, 0, none⟩) 2 _ (by decide) (texts_new v1 x_rP) (good_all _ (by kernel_rfl)) m_rP rfl).mono ?_; rintro e u1 ⟨B1, d1, rfl, hm, hb⟩
  have hb1 := (below_alloc1 v1 (.cells (x_rP.map Value.string).toArray 9)).trans (hb.mono (by rw [size_alloc1]; omega))
  have hbx := SBox.new u1 (.string s_rP.1) (.slice B1 s_rP.2.length d1)
  have hb2 := hb1.trans ((below_alloc1 u1 (.cells #[.string s_rP.1, .slice B1 s_rP.2.length d1] 49)).mono hb1.size)
  have hmx := hm.at.later (below_alloc1 u1 (.cells #[.string s_rP.1, .slice B1 s_rP.2.length d1] 49))
  go_upto_region 5 with fail
  change MovesAt (u1.alloc (.cells #[.string b_reader, .slice B1 m_rP.length d1] 49)) B1 m_rP at hmx
  change SBox (u1.alloc (.cells #[.string b_reader, .slice B1 m_rP.length d1] 49)) _ _ _ at hbx
  change Below _ _ (u1.alloc (.cells #[.string b_reader, .slice B1 m_rP.length d1] 49)) at hb2
  generalize u1.alloc (.cells #[.string b_reader, .slice B1 m_rP.length d1] 49) = v2 at hbx hmx hb2 ⊢
  have HX0 := Lib.hid (HX0.out.later hb2); have HM0 := Lib.hid (HM0.out.later hb2)
  have HX1 := Lib.hid hbx; have HM1 := Lib.hid hmx; have HK := Lib.hid (TermAt.later HK.out hb2); have HB := Lib.hid (HB.out.trans (hb2.mono HB.out.size))
  clear hbx hmx hb2 hb1 hb hm
  have hadd := HADD.out
  go_wp2_with fail
  refine (rstrand b_chip x_cA (some ⟨v2.heap.size, 0, none⟩) 4 _ (by decide) (texts_new v2 x_cA) (good_all _ (by kernel_rfl)) m_cA rfl).mono ?_; rintro e u2 ⟨B2, d2, rfl, hm, hb⟩
  clear hadd
  have hb1 := (below_alloc1 v2 (.cells (x_cA.map Value.string).toArray 9)).trans (hb.mono (by rw [size_alloc1]; omega))
  have hbx := SBox.new u2 (.string s_cA.1) (.slice B2 s_cA.2.length d2)
  have hb2 := hb1.trans ((below_alloc1 u2 (.cells #[.string s_cA.1, .slice B2 s_cA.2.length d2] 49)).mono hb1.size)
  have hmx := hm.at.later (below_alloc1 u2 (.cells #[.string s_cA.1, .slice B2 s_cA.2.length d2] 49))
  go_upto_region 6 with fail
  change MovesAt (u2.alloc (.cells #[.string b_chip, .slice B2 m_cA.length d2] 49)) B2 m_cA at hmx
  change SBox (u2.alloc (.cells #[.string b_chip, .slice B2 m_cA.length d2] 49)) _ _ _ at hbx
  change Below _ _ (u2.alloc (.cells #[.string b_chip, .slice B2 m_cA.length d2] 49)) at hb2
  generalize u2.alloc (.cells #[.string b_chip, .slice B2 m_cA.length d2] 49) = v3 at hbx hmx hb2 ⊢
  have HX0 := Lib.hid (HX0.out.later hb2); have HM0 := Lib.hid (HM0.out.later hb2)
  have HX1 := Lib.hid (HX1.out.later hb2); have HM1 := Lib.hid (HM1.out.later hb2)
  have HX2 := Lib.hid hbx; have HM2 := Lib.hid hmx; have HK := Lib.hid (TermAt.later HK.out hb2); have HB := Lib.hid (HB.out.trans (hb2.mono HB.out.size))
  clear hbx hmx hb2 hb1 hb hm
  go_wp2_with fail
  refine (rstrand b_reader x_rA (some ⟨v3.heap.size, 0, none⟩) 4 _ (by decide) (texts_new v3 x_rA) (good_all _ (by kernel_rfl)) m_rA rfl).mono ?_; rintro e u3 ⟨B3, d3, rfl, hm, hb⟩
  have hb1 := (below_alloc1 v3 (.cells (x_rA.map Value.string).toArray 9)).trans (hb.mono (by rw [size_alloc1]; omega))
  have hbx := SBox.new u3 (.string s_rA.1) (.slice B3 s_rA.2.length d3)
  have hb2 := hb1.trans ((below_alloc1 u3 (.cells #[.string s_rA.1, .slice B3 s_rA.2.length d3] 49)).mono hb1.size)
  have hmx := hm.at.later (below_alloc1 u3 (.cells #[.string s_rA.1, .slice B3 s_rA.2.length d3] 49))
  go_upto_region 8 with fail
  change MovesAt (u3.alloc (.cells #[.string b_reader, .slice B3 m_rA.length d3] 49)) B3 m_rA at hmx
  change SBox (u3.alloc (.cells #[.string b_reader, .slice B3 m_rA.length d3] 49)) _ _ _ at hbx
  change Below _ _ (u3.alloc (.cells #[.string b_reader, .slice B3 m_rA.length d3] 49)) at hb2
  generalize u3.alloc (.cells #[.string b_reader, .slice B3 m_rA.length d3] 49) = v4 at hbx hmx hb2 ⊢
  have HX0 := Lib.hid (HX0.out.later hb2); have HM0 := Lib.hid (HM0.out.later hb2)
  have HX1 := Lib.hid (HX1.out.later hb2); have HM1 := Lib.hid (HM1.out.later hb2)
  have HX2 := Lib.hid (HX2.out.later hb2); have HM2 := Lib.hid (HM2.out.later hb2)
  have HX3 := Lib.hid hbx; have HM3 := Lib.hid hmx; have HK := Lib.hid (TermAt.later HK.out hb2); have HB := Lib.hid (HB.out.trans (hb2.mono HB.out.size))
  clear hbx hmx hb2 hb1 hb hm
  obtain ⟨q2, r2⟩ := HX2.out.cells
  obtain ⟨q3, r3⟩ := HX3.out.cells
  have hst := strands_new3 (s0 := s_cA) (A0 := B2) (c0 := d2) (s1 := s_cA) (A1 := B2) (c1 := d2) (s2 := s_rA) (A2 := B3) (c2 := d3) HM2.out HM2.out HM3.out
  have hb := below_alloc1 v4 (.cells #[.string s_cA.1, .slice B2 s_cA.2.length d2, .string s_cA.1, .slice B2 s_cA.2.length d2, .string s_rA.1, .slice B3 s_rA.2.length d3] 49)
  have HST := Lib.hid hst; have HBF := Lib.hid hb
  clear hst hb
  go_wp2_with fail
  refine bodyPost_ret (v := .tuple #[.slice (some ⟨v4.heap.size, 0, none⟩) 3 3, .slice (some ⟨w5.heap.size, 0, none⟩) 5 5, .bool true]) (by simp [results, Tryz.results31, go_sem]; try rfl) rfl ?_
  exact ⟨_, _, _, _, rfl, HST.out, TermAt.later HK.out HBF.out, HB.out.trans (HBF.out.mono HB.out.size)⟩
set_option maxRecDepth 100000 in
set_option maxHeartbeats 8000000 in
theorem rproto_clone (w : World) : Calls Tryz.prog 31 #[.string b_clone] w (ProtoPost [s_rP] m_known w) := by
  have hadd : (⟨#[83, 32]⟩ : ByteArray) ++ ⟨#[115, 105, 103, 110, 40, 115, 116, 97, 116, 101, 44, 32, 60, 100, 97, 116, 97, 44, 32, 112, 111, 119, 101, 114, 40, 99, 104, 105, 112, 41, 62, 41]⟩ = ⟨#[83, 32, 115, 105, 103, 110, 40, 115, 116, 97, 116, 101, 44, 32, 60, 100, 97, 116, 97, 44, 32, 112, 111, 119, 101, 114, 40, 99, 104, 105, 112, 41, 62, 41]⟩ := by kernel_rfl
  have HADD := Lib.hid hadd
  clear hadd
  go_enter Tryz.func31, Tryz.ntmps31
  go_wp2_with fail
  refine (ref_term ⟨#[100, 97, 116, 97]⟩ _).mono ?_; rintro e w1 ⟨A0, c0, rfl, ht, hb⟩
  have HT0 := Lib.hid ht.at
  have HB := Lib.hid (hb)
  clear ht hb
  go_wp2_with fail
  refine (ref_term ⟨#[115, 105, 103, 110, 40, 115, 116, 97, 116, 101, 44, 32, 60, 100, 97, 116, 97, 44, 32, 112, 111, 119, 101, 114, 40, 99, 104, 105, 112, 41, 62, 41]⟩ _).mono ?_; rintro e w2 ⟨A1, c1, rfl, ht, hb⟩
  have HT0 := Lib.hid (TermAt.later HT0.out hb)
  have HT1 := Lib.hid ht.at
  have HB := Lib.hid (HB.out.trans (hb.mono HB.out.size))
  clear ht hb
  go_wp2_with fail
  refine (ref_term ⟨#[112, 111, 119, 101, 114, 40, 115, 116, 97, 116, 101, 41]⟩ _).mono ?_; rintro e w3 ⟨A2, c2, rfl, ht, hb⟩
  have HT0 := Lib.hid (TermAt.later HT0.out hb)
  have HT1 := Lib.hid (TermAt.later HT1.out hb)
  have HT2 := Lib.hid ht.at
  have HB := Lib.hid (HB.out.trans (hb.mono HB.out.size))
  clear ht hb
  go_wp2_with fail
  refine (ref_term ⟨#[101, 118, 105, 108]⟩ _).mono ?_; rintro e w4 ⟨A3, c3, rfl, ht, hb⟩
  have HT0 := Lib.hid (TermAt.later HT0.out hb)
  have HT1 := Lib.hid (TermAt.later HT1.out hb)
  have HT2 := Lib.hid (TermAt.later HT2.out hb)
  have HT3 := Lib.hid ht.at
  have HB := Lib.hid (HB.out.trans (hb.mono HB.out.size))
  clear ht hb
  go_wp2_with fail
  refine (ref_term ⟨#[112, 111, 119, 101, 114, 40, 101, 118, 105, 108, 41]⟩ _).mono ?_; rintro e w5 ⟨A4, c4, rfl, ht, hb⟩
  have HT0 := Lib.hid (TermAt.later HT0.out hb)
  have HT1 := Lib.hid (TermAt.later HT1.out hb)
  have HT2 := Lib.hid (TermAt.later HT2.out hb)
  have HT3 := Lib.hid (TermAt.later HT3.out hb)
  have HT4 := Lib.hid ht.at
  have HB := Lib.hid (HB.out.trans (hb.mono HB.out.size))
  clear ht hb
  have hk := terms_new5 HT0.out HT1.out HT2.out HT3.out HT4.out
  have hb := below_alloc1 w5 (.cells #[.int .i64 (T.parse ⟨#[100, 97, 116, 97]⟩).1.kind, .string (T.parse ⟨#[100, 97, 116, 97]⟩).1.name, .slice A0 (T.parse ⟨#[100, 97, 116, 97]⟩).1.kids.length c0, .int .i64 (T.parse ⟨#[115, 105, 103, 110, 40, 115, 116, 97, 116, 101, 44, 32, 60, 100, 97, 116, 97, 44, 32, 112, 111, 119, 101, 114, 40, 99, 104, 105, 112, 41, 62, 41]⟩).1.kind, .string (T.parse ⟨#[115, 105, 103, 110, 40, 115, 116, 97, 116, 101, 44, 32, 60, 100, 97, 116, 97, 44, 32, 112, 111, 119, 101, 114, 40, 99, 104, 105, 112, 41, 62, 41]⟩).1.name, .slice A1 (T.parse ⟨#[115, 105, 103, 110, 40, 115, 116, 97, 116, 101, 44, 32, 60, 100, 97, 116, 97, 44, 32, 112, 111, 119, 101, 114, 40, 99, 104, 105, 112, 41, 62, 41]⟩).1.kids.length c1, .int .i64 (T.parse ⟨#[112, 111, 119, 101, 114, 40, 115, 116, 97, 116, 101, 41]⟩).1.kind, .string (T.parse ⟨#[112, 111, 119, 101, 114, 40, 115, 116, 97, 116, 101, 41]⟩).1.name, .slice A2 (T.parse ⟨#[112, 111, 119, 101, 114, 40, 115, 116, 97, 116, 101, 41]⟩).1.kids.length c2, .int .i64 (T.parse ⟨#[101, 118, 105, 108]⟩).1.kind, .string (T.parse ⟨#[101, 118, 105, 108]⟩).1.name, .slice A3 (T.parse ⟨#[101, 118, 105, 108]⟩).1.kids.length c3, .int .i64 (T.parse ⟨#[112, 111, 119, 101, 114, 40, 101, 118, 105, 108, 41]⟩).1.kind, .string (T.parse ⟨#[112, 111, 119, 101, 114, 40, 101, 118, 105, 108, 41]⟩).1.name, .slice A4 (T.parse ⟨#[112, 111, 119, 101, 114, 40, 101, 118, 105, 108, 41]⟩).1.kids.length c4] 29)
  go_upto_region 3 with fail
  generalize w5.alloc (.cells #[.int .i64 (T.parse ⟨#[100, 97, 116, 97]⟩).1.kind, .string (T.parse ⟨#[100, 97, 116, 97]⟩).1.name, .slice A0 (T.parse ⟨#[100, 97, 116, 97]⟩).1.kids.length c0, .int .i64 (T.parse ⟨#[115, 105, 103, 110, 40, 115, 116, 97, 116, 101, 44, 32, 60, 100, 97, 116, 97, 44, 32, 112, 111, 119, 101, 114, 40, 99, 104, 105, 112, 41, 62, 41]⟩).1.kind, .string (T.parse ⟨#[115, 105, 103, 110, 40, 115, 116, 97, 116, 101, 44, 32, 60, 100, 97, 116, 97, 44, 32, 112, 111, 119, 101, 114, 40, 99, 104, 105, 112, 41, 62, 41]⟩).1.name, .slice A1 (T.parse ⟨#[115, 105, 103, 110, 40, 115, 116, 97, 116, 101, 44, 32, 60, 100, 97, 116, 97, 44, 32, 112, 111, 119, 101, 114, 40, 99, 104, 105, 112, 41, 62, 41]⟩).1.kids.length c1, .int .i64 (T.parse ⟨#[112, 111, 119, 101, 114, 40, 115, 116, 97, 116, 101, 41]⟩).1.kind, .string (T.parse ⟨#[112, 111, 119, 101, 114, 40, 115, 116, 97, 116, 101, 41]⟩).1.name, .slice A2 (T.parse ⟨#[112, 111, 119, 101, 114, 40, 115, 116, 97, 116, 101, 41]⟩).1.kids.length c2, .int .i64 (T.parse ⟨#[101, 118, 105, 108]⟩).1.kind, .string (T.parse ⟨#[101, 118, 105, 108]⟩).1.name, .slice A3 (T.parse ⟨#[101, 118, 105, 108]⟩).1.kids.length c3, .int .i64 (T.parse ⟨#[112, 111, 119, 101, 114, 40, 101, 118, 105, 108, 41]⟩).1.kind, .string (T.parse ⟨#[112, 111, 119, 101, 114, 40, 101, 118, 105, 108, 41]⟩).1.name, .slice A4 (T.parse ⟨#[112, 111, 119, 101, 114, 40, 101, 118, 105, 108, 41]⟩).1.kids.length c4] 29) = v0 at hk hb ⊢
  change TermsL v0 _ m_known at hk
  have HK := Lib.hid hk; have HB := Lib.hid (HB.out.trans (hb.mono HB.out.size))
  clear hk hb HT0 HT1 HT2 HT3 HT4
  have hadd := HADD.out
  go_wp2_with fail
  refine (rstrand b_chip x_cP (some ⟨v0.heap.size, 0, none⟩) 2 _ (by decide) (texts_new v0 x_cP) (good_all _ (by kernel_rfl)) m_cP rfl).mono ?_; rintro e u0 ⟨B0, d0, rfl, hm, hb⟩
  clear hadd
  have hb1 := (below_alloc1 v0 (.cells (x_cP.map Value.string).toArray 9)).trans (hb.mono (by rw [size_alloc1]; omega))
  have hbx := SBox.new u0 (.string s_cP.1) (.slice B0 s_cP.2.length d0)
  have hb2 := hb1.trans ((below_alloc1 u0 (.cells #[.string s_cP.1, .slice B0 s_cP.2.length d0] 49)).mono hb1.size)
  have hmx := hm.at.later (below_alloc1 u0 (.cells #[.string s_cP.1, .slice B0 s_cP.2.length d0] 49))
  go_upto_region 4 with fail
  change MovesAt (u0.alloc (.cells #[.string b_chip, .slice B0 m_cP.length d0] 49)) B0 m_cP at hmx
  change SBox (u0.alloc (.cells #[.string b_chip, .slice B0 m_cP.length d0] 49)) _ _ _ at hbx
  change Below _ _ (u0.alloc (.cells #[.string b_chip, .slice B0 m_cP.length d0] 49)) at hb2
  generalize u0.alloc (.cells #[.string b_chip, .slice B0 m_cP.length d0] 49) = v1 at hbx hmx hb2 ⊢
  have HX0 := Lib.hid hbx; have HM0 := Lib.hid hmx; have HK := Lib.hid (TermAt.later HK.out hb2); have HB := Lib.hid (HB.out.trans (hb2.mono HB.out.size))
  clear hbx hmx hb2 hb1 hb hm
  go_wp2_with fail
  refine (rstrand b_reader x_rP (some ⟨v1.heap.size, 0, none⟩) 2 _ (by decide) (texts_new v1 x_rP) (good_all _ (by kernel_rfl)) m_rP rfl).mono ?_; rintro e u1 ⟨B1, d1, rfl, hm, hb⟩
  have hb1 := (below_alloc1 v1 (.cells (x_rP.map Value.string).toArray 9)).trans (hb.mono (by rw [size_alloc1]; omega))
  have hbx := SBox.new u1 (.string s_rP.1) (.slice B1 s_rP.2.length d1)
  have hb2 := hb1.trans ((below_alloc1 u1 (.cells #[.string s_rP.1, .slice B1 s_rP.2.length d1] 49)).mono hb1.size)
  have hmx := hm.at.later (below_alloc1 u1 (.cells #[.string s_rP.1, .slice B1 s_rP.2.length d1] 49))
  go_upto_region 5 with fail
  change MovesAt (u1.alloc (.cells #[.string b_reader, .slice B1 m_rP.length d1] 49)) B1 m_rP at hmx
  change SBox (u1.alloc (.cells #[.string b_reader, .slice B1 m_rP.length d1] 49)) _ _ _ at hbx
  change Below _ _ (u1.alloc (.cells #[.string b_reader, .slice B1 m_rP.length d1] 49)) at hb2
  generalize u1.alloc (.cells #[.string b_reader, .slice B1 m_rP.length d1] 49) = v2 at hbx hmx hb2 ⊢
  have HX0 := Lib.hid (HX0.out.later hb2); have HM0 := Lib.hid (HM0.out.later hb2)
  have HX1 := Lib.hid hbx; have HM1 := Lib.hid hmx; have HK := Lib.hid (TermAt.later HK.out hb2); have HB := Lib.hid (HB.out.trans (hb2.mono HB.out.size))
  clear hbx hmx hb2 hb1 hb hm
  have hadd := HADD.out
  go_wp2_with fail
  refine (rstrand b_chip x_cA (some ⟨v2.heap.size, 0, none⟩) 4 _ (by decide) (texts_new v2 x_cA) (good_all _ (by kernel_rfl)) m_cA rfl).mono ?_; rintro e u2 ⟨B2, d2, rfl, hm, hb⟩
  clear hadd
  have hb1 := (below_alloc1 v2 (.cells (x_cA.map Value.string).toArray 9)).trans (hb.mono (by rw [size_alloc1]; omega))
  have hbx := SBox.new u2 (.string s_cA.1) (.slice B2 s_cA.2.length d2)
  have hb2 := hb1.trans ((below_alloc1 u2 (.cells #[.string s_cA.1, .slice B2 s_cA.2.length d2] 49)).mono hb1.size)
  have hmx := hm.at.later (below_alloc1 u2 (.cells #[.string s_cA.1, .slice B2 s_cA.2.length d2] 49))
  go_upto_region 6 with fail
  change MovesAt (u2.alloc (.cells #[.string b_chip, .slice B2 m_cA.length d2] 49)) B2 m_cA at hmx
  change SBox (u2.alloc (.cells #[.string b_chip, .slice B2 m_cA.length d2] 49)) _ _ _ at hbx
  change Below _ _ (u2.alloc (.cells #[.string b_chip, .slice B2 m_cA.length d2] 49)) at hb2
  generalize u2.alloc (.cells #[.string b_chip, .slice B2 m_cA.length d2] 49) = v3 at hbx hmx hb2 ⊢
  have HX0 := Lib.hid (HX0.out.later hb2); have HM0 := Lib.hid (HM0.out.later hb2)
  have HX1 := Lib.hid (HX1.out.later hb2); have HM1 := Lib.hid (HM1.out.later hb2)
  have HX2 := Lib.hid hbx; have HM2 := Lib.hid hmx; have HK := Lib.hid (TermAt.later HK.out hb2); have HB := Lib.hid (HB.out.trans (hb2.mono HB.out.size))
  clear hbx hmx hb2 hb1 hb hm
  go_wp2_with fail
  refine (rstrand b_reader x_rA (some ⟨v3.heap.size, 0, none⟩) 4 _ (by decide) (texts_new v3 x_rA) (good_all _ (by kernel_rfl)) m_rA rfl).mono ?_; rintro e u3 ⟨B3, d3, rfl, hm, hb⟩
  have hb1 := (below_alloc1 v3 (.cells (x_rA.map Value.string).toArray 9)).trans (hb.mono (by rw [size_alloc1]; omega))
  have hbx := SBox.new u3 (.string s_rA.1) (.slice B3 s_rA.2.length d3)
  have hb2 := hb1.trans ((below_alloc1 u3 (.cells #[.string s_rA.1, .slice B3 s_rA.2.length d3] 49)).mono hb1.size)
  have hmx := hm.at.later (below_alloc1 u3 (.cells #[.string s_rA.1, .slice B3 s_rA.2.length d3] 49))
  go_upto_region 8 with fail
  change MovesAt (u3.alloc (.cells #[.string b_reader, .slice B3 m_rA.length d3] 49)) B3 m_rA at hmx
  change SBox (u3.alloc (.cells #[.string b_reader, .slice B3 m_rA.length d3] 49)) _ _ _ at hbx
  change Below _ _ (u3.alloc (.cells #[.string b_reader, .slice B3 m_rA.length d3] 49)) at hb2
  generalize u3.alloc (.cells #[.string b_reader, .slice B3 m_rA.length d3] 49) = v4 at hbx hmx hb2 ⊢
  have HX0 := Lib.hid (HX0.out.later hb2); have HM0 := Lib.hid (HM0.out.later hb2)
  have HX1 := Lib.hid (HX1.out.later hb2); have HM1 := Lib.hid (HM1.out.later hb2)
  have HX2 := Lib.hid (HX2.out.later hb2); have HM2 := Lib.hid (HM2.out.later hb2)
  have HX3 := Lib.hid hbx; have HM3 := Lib.hid hmx; have HK := Lib.hid (TermAt.later HK.out hb2); have HB := Lib.hid (HB.out.trans (hb2.mono HB.out.size))
  clear hbx hmx hb2 hb1 hb hm
  obtain ⟨q1, r1⟩ := HX1.out.cells
  have hst := strands_new1 (s0 := s_rP) (A0 := B1) (c0 := d1) HM1.out
  have hb := below_alloc1 v4 (.cells #[.string s_rP.1, .slice B1 s_rP.2.length d1] 49)
  have HST := Lib.hid hst; have HBF := Lib.hid hb
  clear hst hb
  go_wp2_with fail
  refine bodyPost_ret (v := .tuple #[.slice (some ⟨v4.heap.size, 0, none⟩) 1 1, .slice (some ⟨w5.heap.size, 0, none⟩) 5 5, .bool true]) (by simp [results, Tryz.results31, go_sem]; try rfl) rfl ?_
  exact ⟨_, _, _, _, rfl, HST.out, TermAt.later HK.out HBF.out, HB.out.trans (HBF.out.mono HB.out.size)⟩
set_option maxRecDepth 100000 in
set_option maxHeartbeats 8000000 in
theorem rproto_none (n : ByteArray) (w : World) (h : n ≠ b_passive ∧ n ≠ b_active ∧ n ≠ b_exchange ∧ n ≠ b_blind ∧ n ≠ b_clone) : Calls Tryz.prog 31 #[.string n] w fun e w' => e = .returned (.tuple #[.slice none 0 0, .slice none 0 0, .bool false]) ∧ Below w.heap.size w w' := by
  obtain ⟨h1, h2, h3, h4, h5⟩ := h
  have g1 : (n.toList == [112, 97, 115, 115, 105, 118, 101]) = false := str_lit_ne h1
  have g2 : (n.toList == [97, 99, 116, 105, 118, 101]) = false := str_lit_ne h2
  have g3 : (n.toList == [101, 120, 99, 104, 97, 110, 103, 101]) = false := str_lit_ne h3
  have g4 : (n.toList == [98, 108, 105, 110, 100]) = false := str_lit_ne h4
  have g5 : (n.toList == [99, 108, 111, 110, 101]) = false := str_lit_ne h5
  clear h1 h2 h3 h4 h5
  have hadd : (⟨#[83, 32]⟩ : ByteArray) ++ ⟨#[115, 105, 103, 110, 40, 115, 116, 97, 116, 101, 44, 32, 60, 100, 97, 116, 97, 44, 32, 112, 111, 119, 101, 114, 40, 99, 104, 105, 112, 41, 62, 41]⟩ = ⟨#[83, 32, 115, 105, 103, 110, 40, 115, 116, 97, 116, 101, 44, 32, 60, 100, 97, 116, 97, 44, 32, 112, 111, 119, 101, 114, 40, 99, 104, 105, 112, 41, 62, 41]⟩ := by kernel_rfl
  have HADD := Lib.hid hadd
  clear hadd
  go_enter Tryz.func31, Tryz.ntmps31
  go_wp2_with fail
  refine (ref_term ⟨#[100, 97, 116, 97]⟩ _).mono ?_; rintro e w1 ⟨A0, c0, rfl, ht, hb⟩
  have HT0 := Lib.hid ht.at
  have HB := Lib.hid (hb)
  clear ht hb
  go_wp2_with fail
  refine (ref_term ⟨#[115, 105, 103, 110, 40, 115, 116, 97, 116, 101, 44, 32, 60, 100, 97, 116, 97, 44, 32, 112, 111, 119, 101, 114, 40, 99, 104, 105, 112, 41, 62, 41]⟩ _).mono ?_; rintro e w2 ⟨A1, c1, rfl, ht, hb⟩
  have HT0 := Lib.hid (TermAt.later HT0.out hb)
  have HT1 := Lib.hid ht.at
  have HB := Lib.hid (HB.out.trans (hb.mono HB.out.size))
  clear ht hb
  go_wp2_with fail
  refine (ref_term ⟨#[112, 111, 119, 101, 114, 40, 115, 116, 97, 116, 101, 41]⟩ _).mono ?_; rintro e w3 ⟨A2, c2, rfl, ht, hb⟩
  have HT0 := Lib.hid (TermAt.later HT0.out hb)
  have HT1 := Lib.hid (TermAt.later HT1.out hb)
  have HT2 := Lib.hid ht.at
  have HB := Lib.hid (HB.out.trans (hb.mono HB.out.size))
  clear ht hb
  go_wp2_with fail
  refine (ref_term ⟨#[101, 118, 105, 108]⟩ _).mono ?_; rintro e w4 ⟨A3, c3, rfl, ht, hb⟩
  have HT0 := Lib.hid (TermAt.later HT0.out hb)
  have HT1 := Lib.hid (TermAt.later HT1.out hb)
  have HT2 := Lib.hid (TermAt.later HT2.out hb)
  have HT3 := Lib.hid ht.at
  have HB := Lib.hid (HB.out.trans (hb.mono HB.out.size))
  clear ht hb
  go_wp2_with fail
  refine (ref_term ⟨#[112, 111, 119, 101, 114, 40, 101, 118, 105, 108, 41]⟩ _).mono ?_; rintro e w5 ⟨A4, c4, rfl, ht, hb⟩
  have HT0 := Lib.hid (TermAt.later HT0.out hb)
  have HT1 := Lib.hid (TermAt.later HT1.out hb)
  have HT2 := Lib.hid (TermAt.later HT2.out hb)
  have HT3 := Lib.hid (TermAt.later HT3.out hb)
  have HT4 := Lib.hid ht.at
  have HB := Lib.hid (HB.out.trans (hb.mono HB.out.size))
  clear ht hb
  have hk := terms_new5 HT0.out HT1.out HT2.out HT3.out HT4.out
  have hb := below_alloc1 w5 (.cells #[.int .i64 (T.parse ⟨#[100, 97, 116, 97]⟩).1.kind, .string (T.parse ⟨#[100, 97, 116, 97]⟩).1.name, .slice A0 (T.parse ⟨#[100, 97, 116, 97]⟩).1.kids.length c0, .int .i64 (T.parse ⟨#[115, 105, 103, 110, 40, 115, 116, 97, 116, 101, 44, 32, 60, 100, 97, 116, 97, 44, 32, 112, 111, 119, 101, 114, 40, 99, 104, 105, 112, 41, 62, 41]⟩).1.kind, .string (T.parse ⟨#[115, 105, 103, 110, 40, 115, 116, 97, 116, 101, 44, 32, 60, 100, 97, 116, 97, 44, 32, 112, 111, 119, 101, 114, 40, 99, 104, 105, 112, 41, 62, 41]⟩).1.name, .slice A1 (T.parse ⟨#[115, 105, 103, 110, 40, 115, 116, 97, 116, 101, 44, 32, 60, 100, 97, 116, 97, 44, 32, 112, 111, 119, 101, 114, 40, 99, 104, 105, 112, 41, 62, 41]⟩).1.kids.length c1, .int .i64 (T.parse ⟨#[112, 111, 119, 101, 114, 40, 115, 116, 97, 116, 101, 41]⟩).1.kind, .string (T.parse ⟨#[112, 111, 119, 101, 114, 40, 115, 116, 97, 116, 101, 41]⟩).1.name, .slice A2 (T.parse ⟨#[112, 111, 119, 101, 114, 40, 115, 116, 97, 116, 101, 41]⟩).1.kids.length c2, .int .i64 (T.parse ⟨#[101, 118, 105, 108]⟩).1.kind, .string (T.parse ⟨#[101, 118, 105, 108]⟩).1.name, .slice A3 (T.parse ⟨#[101, 118, 105, 108]⟩).1.kids.length c3, .int .i64 (T.parse ⟨#[112, 111, 119, 101, 114, 40, 101, 118, 105, 108, 41]⟩).1.kind, .string (T.parse ⟨#[112, 111, 119, 101, 114, 40, 101, 118, 105, 108, 41]⟩).1.name, .slice A4 (T.parse ⟨#[112, 111, 119, 101, 114, 40, 101, 118, 105, 108, 41]⟩).1.kids.length c4] 29)
  go_upto_region 3 with fail
  generalize w5.alloc (.cells #[.int .i64 (T.parse ⟨#[100, 97, 116, 97]⟩).1.kind, .string (T.parse ⟨#[100, 97, 116, 97]⟩).1.name, .slice A0 (T.parse ⟨#[100, 97, 116, 97]⟩).1.kids.length c0, .int .i64 (T.parse ⟨#[115, 105, 103, 110, 40, 115, 116, 97, 116, 101, 44, 32, 60, 100, 97, 116, 97, 44, 32, 112, 111, 119, 101, 114, 40, 99, 104, 105, 112, 41, 62, 41]⟩).1.kind, .string (T.parse ⟨#[115, 105, 103, 110, 40, 115, 116, 97, 116, 101, 44, 32, 60, 100, 97, 116, 97, 44, 32, 112, 111, 119, 101, 114, 40, 99, 104, 105, 112, 41, 62, 41]⟩).1.name, .slice A1 (T.parse ⟨#[115, 105, 103, 110, 40, 115, 116, 97, 116, 101, 44, 32, 60, 100, 97, 116, 97, 44, 32, 112, 111, 119, 101, 114, 40, 99, 104, 105, 112, 41, 62, 41]⟩).1.kids.length c1, .int .i64 (T.parse ⟨#[112, 111, 119, 101, 114, 40, 115, 116, 97, 116, 101, 41]⟩).1.kind, .string (T.parse ⟨#[112, 111, 119, 101, 114, 40, 115, 116, 97, 116, 101, 41]⟩).1.name, .slice A2 (T.parse ⟨#[112, 111, 119, 101, 114, 40, 115, 116, 97, 116, 101, 41]⟩).1.kids.length c2, .int .i64 (T.parse ⟨#[101, 118, 105, 108]⟩).1.kind, .string (T.parse ⟨#[101, 118, 105, 108]⟩).1.name, .slice A3 (T.parse ⟨#[101, 118, 105, 108]⟩).1.kids.length c3, .int .i64 (T.parse ⟨#[112, 111, 119, 101, 114, 40, 101, 118, 105, 108, 41]⟩).1.kind, .string (T.parse ⟨#[112, 111, 119, 101, 114, 40, 101, 118, 105, 108, 41]⟩).1.name, .slice A4 (T.parse ⟨#[112, 111, 119, 101, 114, 40, 101, 118, 105, 108, 41]⟩).1.kids.length c4] 29) = v0 at hk hb ⊢
  change TermsL v0 _ m_known at hk
  have HK := Lib.hid hk; have HB := Lib.hid (HB.out.trans (hb.mono HB.out.size))
  clear hk hb HT0 HT1 HT2 HT3 HT4
  have hadd := HADD.out
  go_wp2_with fail
  refine (rstrand b_chip x_cP (some ⟨v0.heap.size, 0, none⟩) 2 _ (by decide) (texts_new v0 x_cP) (good_all _ (by kernel_rfl)) m_cP rfl).mono ?_; rintro e u0 ⟨B0, d0, rfl, hm, hb⟩
  clear hadd
  have hb1 := (below_alloc1 v0 (.cells (x_cP.map Value.string).toArray 9)).trans (hb.mono (by rw [size_alloc1]; omega))
  have hbx := SBox.new u0 (.string s_cP.1) (.slice B0 s_cP.2.length d0)
  have hb2 := hb1.trans ((below_alloc1 u0 (.cells #[.string s_cP.1, .slice B0 s_cP.2.length d0] 49)).mono hb1.size)
  have hmx := hm.at.later (below_alloc1 u0 (.cells #[.string s_cP.1, .slice B0 s_cP.2.length d0] 49))
  go_upto_region 4 with fail
  change MovesAt (u0.alloc (.cells #[.string b_chip, .slice B0 m_cP.length d0] 49)) B0 m_cP at hmx
  change SBox (u0.alloc (.cells #[.string b_chip, .slice B0 m_cP.length d0] 49)) _ _ _ at hbx
  change Below _ _ (u0.alloc (.cells #[.string b_chip, .slice B0 m_cP.length d0] 49)) at hb2
  generalize u0.alloc (.cells #[.string b_chip, .slice B0 m_cP.length d0] 49) = v1 at hbx hmx hb2 ⊢
  have HX0 := Lib.hid hbx; have HM0 := Lib.hid hmx; have HK := Lib.hid (TermAt.later HK.out hb2); have HB := Lib.hid (HB.out.trans (hb2.mono HB.out.size))
  clear hbx hmx hb2 hb1 hb hm
  go_wp2_with fail
  refine (rstrand b_reader x_rP (some ⟨v1.heap.size, 0, none⟩) 2 _ (by decide) (texts_new v1 x_rP) (good_all _ (by kernel_rfl)) m_rP rfl).mono ?_; rintro e u1 ⟨B1, d1, rfl, hm, hb⟩
  have hb1 := (below_alloc1 v1 (.cells (x_rP.map Value.string).toArray 9)).trans (hb.mono (by rw [size_alloc1]; omega))
  have hbx := SBox.new u1 (.string s_rP.1) (.slice B1 s_rP.2.length d1)
  have hb2 := hb1.trans ((below_alloc1 u1 (.cells #[.string s_rP.1, .slice B1 s_rP.2.length d1] 49)).mono hb1.size)
  have hmx := hm.at.later (below_alloc1 u1 (.cells #[.string s_rP.1, .slice B1 s_rP.2.length d1] 49))
  go_upto_region 5 with fail
  change MovesAt (u1.alloc (.cells #[.string b_reader, .slice B1 m_rP.length d1] 49)) B1 m_rP at hmx
  change SBox (u1.alloc (.cells #[.string b_reader, .slice B1 m_rP.length d1] 49)) _ _ _ at hbx
  change Below _ _ (u1.alloc (.cells #[.string b_reader, .slice B1 m_rP.length d1] 49)) at hb2
  generalize u1.alloc (.cells #[.string b_reader, .slice B1 m_rP.length d1] 49) = v2 at hbx hmx hb2 ⊢
  have HX0 := Lib.hid (HX0.out.later hb2); have HM0 := Lib.hid (HM0.out.later hb2)
  have HX1 := Lib.hid hbx; have HM1 := Lib.hid hmx; have HK := Lib.hid (TermAt.later HK.out hb2); have HB := Lib.hid (HB.out.trans (hb2.mono HB.out.size))
  clear hbx hmx hb2 hb1 hb hm
  have hadd := HADD.out
  go_wp2_with fail
  refine (rstrand b_chip x_cA (some ⟨v2.heap.size, 0, none⟩) 4 _ (by decide) (texts_new v2 x_cA) (good_all _ (by kernel_rfl)) m_cA rfl).mono ?_; rintro e u2 ⟨B2, d2, rfl, hm, hb⟩
  clear hadd
  have hb1 := (below_alloc1 v2 (.cells (x_cA.map Value.string).toArray 9)).trans (hb.mono (by rw [size_alloc1]; omega))
  have hbx := SBox.new u2 (.string s_cA.1) (.slice B2 s_cA.2.length d2)
  have hb2 := hb1.trans ((below_alloc1 u2 (.cells #[.string s_cA.1, .slice B2 s_cA.2.length d2] 49)).mono hb1.size)
  have hmx := hm.at.later (below_alloc1 u2 (.cells #[.string s_cA.1, .slice B2 s_cA.2.length d2] 49))
  go_upto_region 6 with fail
  change MovesAt (u2.alloc (.cells #[.string b_chip, .slice B2 m_cA.length d2] 49)) B2 m_cA at hmx
  change SBox (u2.alloc (.cells #[.string b_chip, .slice B2 m_cA.length d2] 49)) _ _ _ at hbx
  change Below _ _ (u2.alloc (.cells #[.string b_chip, .slice B2 m_cA.length d2] 49)) at hb2
  generalize u2.alloc (.cells #[.string b_chip, .slice B2 m_cA.length d2] 49) = v3 at hbx hmx hb2 ⊢
  have HX0 := Lib.hid (HX0.out.later hb2); have HM0 := Lib.hid (HM0.out.later hb2)
  have HX1 := Lib.hid (HX1.out.later hb2); have HM1 := Lib.hid (HM1.out.later hb2)
  have HX2 := Lib.hid hbx; have HM2 := Lib.hid hmx; have HK := Lib.hid (TermAt.later HK.out hb2); have HB := Lib.hid (HB.out.trans (hb2.mono HB.out.size))
  clear hbx hmx hb2 hb1 hb hm
  go_wp2_with fail
  refine (rstrand b_reader x_rA (some ⟨v3.heap.size, 0, none⟩) 4 _ (by decide) (texts_new v3 x_rA) (good_all _ (by kernel_rfl)) m_rA rfl).mono ?_; rintro e u3 ⟨B3, d3, rfl, hm, hb⟩
  have hb1 := (below_alloc1 v3 (.cells (x_rA.map Value.string).toArray 9)).trans (hb.mono (by rw [size_alloc1]; omega))
  have hbx := SBox.new u3 (.string s_rA.1) (.slice B3 s_rA.2.length d3)
  have hb2 := hb1.trans ((below_alloc1 u3 (.cells #[.string s_rA.1, .slice B3 s_rA.2.length d3] 49)).mono hb1.size)
  have hmx := hm.at.later (below_alloc1 u3 (.cells #[.string s_rA.1, .slice B3 s_rA.2.length d3] 49))
  go_upto_region 8 with fail
  change MovesAt (u3.alloc (.cells #[.string b_reader, .slice B3 m_rA.length d3] 49)) B3 m_rA at hmx
  change SBox (u3.alloc (.cells #[.string b_reader, .slice B3 m_rA.length d3] 49)) _ _ _ at hbx
  change Below _ _ (u3.alloc (.cells #[.string b_reader, .slice B3 m_rA.length d3] 49)) at hb2
  generalize u3.alloc (.cells #[.string b_reader, .slice B3 m_rA.length d3] 49) = v4 at hbx hmx hb2 ⊢
  have HX0 := Lib.hid (HX0.out.later hb2); have HM0 := Lib.hid (HM0.out.later hb2)
  have HX1 := Lib.hid (HX1.out.later hb2); have HM1 := Lib.hid (HM1.out.later hb2)
  have HX2 := Lib.hid (HX2.out.later hb2); have HM2 := Lib.hid (HM2.out.later hb2)
  have HX3 := Lib.hid hbx; have HM3 := Lib.hid hmx; have HK := Lib.hid (TermAt.later HK.out hb2); have HB := Lib.hid (HB.out.trans (hb2.mono HB.out.size))
  clear hbx hmx hb2 hb1 hb hm
  go_wp2_with fail
  refine bodyPost_ret (v := .tuple #[.slice none 0 0, .slice none 0 0, .bool false]) (by simp [results, Tryz.results31, go_sem]; try rfl) rfl ?_
  exact ⟨rfl, HB.out⟩
set_option maxRecDepth 100000 in
set_option maxHeartbeats 4000000 in
theorem oproto_none (n : ByteArray) (w : World) (h : n ≠ b_passive ∧ n ≠ b_active ∧ n ≠ b_exchange ∧ n ≠ b_blind ∧ n ≠ b_clone) : Calls Tryz.prog 30 #[.string n] w fun e w' => e = .returned (.tuple #[.slice none 0 0, .slice none 0 0, .bool false]) ∧ Below w.heap.size w w' := by
  obtain ⟨h1, h2, h3, h4, h5⟩ := h
  have g1 : (n.toList == [112, 97, 115, 115, 105, 118, 101]) = false := str_lit_ne h1
  have g2 : (n.toList == [97, 99, 116, 105, 118, 101]) = false := str_lit_ne h2
  have g3 : (n.toList == [101, 120, 99, 104, 97, 110, 103, 101]) = false := str_lit_ne h3
  have g4 : (n.toList == [98, 108, 105, 110, 100]) = false := str_lit_ne h4
  have g5 : (n.toList == [99, 108, 111, 110, 101]) = false := str_lit_ne h5
  clear h1 h2 h3 h4 h5
  go_enter Tryz.func30, Tryz.ntmps30
  go_wp2_with fail
  refine bodyPost_ret (v := .tuple #[.slice none 0 0, .slice none 0 0, .bool false]) (by simp [results, Tryz.results30, go_sem]; try rfl) rfl ?_
  exact ⟨rfl, Below.refl _ _⟩
end Go.Proofs.YtihbmgkbipeakaaGreat
