/- Chapter 11: the walk of the law on Parse. -/
import Derived.Test.YtelngghecmkipaaGreatDoorZonAwake
import Derived.Test.YtelngghecmkipaaGreatDoorZonLaw0
import Derived.Test.YtelngghecmkipaaGreatDoorZonRParse
namespace Go.Proofs.YtelngghecmkipaaGreatDoor
open Go.RowKit Go.ChangeShapes Go.WideShapes

set_option maxRecDepth 100000 in
set_option maxHeartbeats 4000000 in
theorem zone_parses (R : List ByteArray) (A : Option Addr) (c : Nat) (w : World) (hR : R.length ≤ 8796093022208) (hRs : ∀ s ∈ R, s.size ≤ 140737488351232) (hA : TextsAt w A R) (hd : Dat.At w) (hx : Opt.Lax w) :
    Calls Tryz.prog 3 #[.slice A R.length c] w fun e w' => e = .returned (.bool true) ∧ Below w.heap.size w w' := by
  have HDX := Lib.hid (And.intro hd hx)
  have HA := Lib.hid hA
  obtain ⟨V, hV⟩ : ∃ q, Zn.prsV (txts R) = q := ⟨_, rfl⟩
  obtain ⟨E, hE⟩ : ∃ q, Zn.prsE (txts R) = q := ⟨_, rfl⟩
  have HP := Lib.hid (show ∀ W, TextsAt W A R → Dat.At W → Opt.Lax W → Calls Tryz.prog 10 #[.slice A R.length c] W fun e w' => e = .returned (.tuple #[.agg #[.int .i64 V.fmt, .string V.kind, .string V.state, .string V.sur, .string V.giv, .string V.num, .string V.nat, .string V.birth, .string V.sex, .string V.exp, .string V.opt, .string V.sec], .int .i64 E]) ∧ Below W.heap.size W w' from fun W h1 h2 h3 => by
    have h := zparse R A c W hR hRs h1 h2 h3
    rw [hV, hE] at h
    exact h)
  have HQ := Lib.hid (show ∀ W, TextsAt W A R → Calls Tryz.prog 11 #[.slice A R.length c] W fun e w' => e = .returned (.tuple #[.agg #[.int .i64 V.fmt, .string V.kind, .string V.state, .string V.sur, .string V.giv, .string V.num, .string V.nat, .string V.birth, .string V.sex, .string V.exp, .string V.opt, .string V.sec], .int .i64 E]) ∧ Below W.heap.size W w' from fun W h1 => by
    have h := rparse R A c W hR hRs h1
    rw [hV, hE] at h
    exact h)
  clear hd hx hA hV hE hRs hR
  go_enter Tryz.func3, Tryz.ntmps3
  go_wp2_with fail
  refine (HP.out _ HA.out HDX.out.1 HDX.out.2).mono ?_; rintro e w1 ⟨rfl, hb1⟩
  have HB1 := Lib.hid hb1; clear hb1
  go_upto_region 2 with fail
  have hb2 := below_alloc1 w1 (.cells #[.int .i64 V.fmt, .string V.kind, .string V.state, .string V.sur, .string V.giv, .string V.num, .string V.nat, .string V.birth, .string V.sex, .string V.exp, .string V.opt, .string V.sec] 24)
  have hx1 : ZBox (w1.alloc (.cells #[.int .i64 V.fmt, .string V.kind, .string V.state, .string V.sur, .string V.giv, .string V.num, .string V.nat, .string V.birth, .string V.sex, .string V.exp, .string V.opt, .string V.sec] 24)) w1.heap.size V := ZBox.new w1 V
  generalize w1.alloc (.cells #[.int .i64 V.fmt, .string V.kind, .string V.state, .string V.sur, .string V.giv, .string V.num, .string V.nat, .string V.birth, .string V.sex, .string V.exp, .string V.opt, .string V.sec] 24) = w2 at hb2 hx1 ⊢
  obtain ⟨g1, hg1⟩ : ∃ q, w1.heap.size = q := ⟨_, rfl⟩
  have HB2 := Lib.hid (HB1.out.trans (hb2.mono HB1.out.size))
  rw [hg1] at hx1 ⊢
  have HX1 := Lib.hid hx1
  clear hb2 hx1 hg1
  go_wp2_with fail
  refine (HQ.out _ (HA.out.later HB2.out)).mono ?_; rintro e w3 ⟨rfl, hb3⟩
  have HB3 := Lib.hid (HB2.out.trans (hb3.mono HB2.out.size)); have HX3 := Lib.hid (HX1.out.later hb3); clear hb3
  go_upto_region 3 with fail
  have hb4 := below_alloc1 w3 (.cells #[.int .i64 V.fmt, .string V.kind, .string V.state, .string V.sur, .string V.giv, .string V.num, .string V.nat, .string V.birth, .string V.sex, .string V.exp, .string V.opt, .string V.sec] 24)
  have hx4 : ZBox (w3.alloc (.cells #[.int .i64 V.fmt, .string V.kind, .string V.state, .string V.sur, .string V.giv, .string V.num, .string V.nat, .string V.birth, .string V.sex, .string V.exp, .string V.opt, .string V.sec] 24)) w3.heap.size V := ZBox.new w3 V
  generalize w3.alloc (.cells #[.int .i64 V.fmt, .string V.kind, .string V.state, .string V.sur, .string V.giv, .string V.num, .string V.nat, .string V.birth, .string V.sex, .string V.exp, .string V.opt, .string V.sec] 24) = w4 at hb4 hx4 ⊢
  obtain ⟨g2, hg2⟩ : ∃ q, w3.heap.size = q := ⟨_, rfl⟩
  have HB4 := Lib.hid (HB3.out.trans (hb4.mono HB3.out.size))
  have HX5 := Lib.hid (HX3.out.later hb4)
  rw [hg2] at hx4 ⊢
  have HX4 := Lib.hid hx4
  clear hb4 hx4 hg2
  go_wp2_with fail
  refine (zawake _ (HDX.out.1.below HB4.out) (HDX.out.2.below HB4.out)).mono ?_; rintro e w5 ⟨rfl, hb5⟩
  have HB5 := Lib.hid (HB4.out.trans (hb5.mono HB4.out.size))
  obtain ⟨x0, x1, x2, x3, x4, x5, x6, x7, x8, x9, x10, x11⟩ := (HX4.out.later hb5).cells
  obtain ⟨y0, y1, y2, y3, y4, y5, y6, y7, y8, y9, y10, y11⟩ := (HX5.out.later hb5).cells
  clear hb5
  go_wp2_with fail
  go_ret
  exact ⟨rfl, HB5.out⟩
set_option maxRecDepth 100000 in
theorem walkZoneParses {H : Type} {enc : TypeId × Value → H} (w : World) (v : Value) (d : DataW H) {b0 : Nat} {p : List MemPlace} {r : Reach} (hv : Value.okWide Tryz.prog w r b0 22 v) (hd : DataW.Trod enc Tryz.prog w 0 (fun _ => true) true 22 v d p)
    {ts : List TypeId} {ds : List (DataW H)} (hsz : (DataW.weightsEach Tryz.prog (22 :: ts) (d :: ds)).all (· ≤ reachBytes) = true) (hL : laidMetH Tryz.prog Rows.zoneParsesRow.laid w) (hsh : w.ShapedOpen Tryz.prog) :
    Calls Tryz.prog 3 #[v] w fun e w' => e = .returned (.bool true) ∧ Below w.heap.size w w' := by
  obtain ⟨A, R, c, rfl, hc, hl, hT, hs⟩ := open_texts (j := 0) hv hd hsz rfl rfl
  exact zone_parses R A c w (by omega) hs hT (Dat.at_of hL) (Opt.lax_of hsh)
end Go.Proofs.YtelngghecmkipaaGreatDoor
