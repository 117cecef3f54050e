/- The walks of chapter 10's statements on digits and on names, and of the sanity check. -/
import Derived.Test.YtdejgomljelnlaaDoorOptNames3
import Derived.Lib.LaidTab
import Derived.ProofKit
import Derived.OpenShut
import Derived.Shelf.Vars
namespace Go.Proofs.YtdejgomljelnlaaDoor
open Go.RowKit Go.ChangeShapes Go.WideShapes

/-- What the world's shape says of the library's variable. -/
theorem Opt.lax_of {W : World} (h : W.ShapedOpen Tryd.prog) : Opt.Lax W := Tryd.laysM145.s1_3 W h

set_option maxHeartbeats 1000000 in
theorem awake_any (w : World) (hw : Opt.Lax w) : Calls Tryd.prog 11 #[] w fun e w' => e = .returned (.bool true) ∧ Below w.heap.size w w' := by
  have h1 : Opt.digS ⟨#[53, 50, 48, 55, 50, 55]⟩ = ⟨#[51]⟩ := by decide
  have h2 : Opt.digE ⟨#[53, 50, 48, 55, 50, 55]⟩ = 0 := by decide
  have k1 : Opt.words (b8 32) [79, 75] = true := by decide
  have k2 : Opt.words (b8 32) [65] = true := by decide
  have hok : Opt.nmOk [79, 75] [65] := ⟨k1, k2, by decide⟩
  have h3 : Opt.nmV [79, 75] [65] 8 = [79, 75, 60, 60, 65, 60, 60, 60] := by
    unfold Opt.nmV; rw [if_neg (by rintro (h | h | h); exact h hok; omega; omega)]; decide
  have h4 : Opt.nmE [79, 75] [65] 8 = 0 := by unfold Opt.nmE; rw [if_neg (fun h => h hok), if_neg (by omega)]
  have H1 := Lib.hid h1; have H2 := Lib.hid h2; have H3 := Lib.hid h3; have H4 := Lib.hid h4; clear h1 h2 h3 h4 hok k1 k2
  go_enter Tryd.func11, Tryd.ntmps11
  go_wp2_with fail
  refine (odigit _ _ (by decide)).mono ?_; rintro e w1 ⟨rfl, hb1⟩
  rw [H1.out, H2.out]
  go_wp2_with fail
  refine (onames_any _ _ _ _ (hw.below hb1) (by decide)).mono ?_; rintro e w2 ⟨rfl, hb2⟩
  have e1 : (⟨#[79, 75]⟩ : ByteArray).data.toList = [79, 75] := rfl
  have e2 : (⟨#[65]⟩ : ByteArray).data.toList = [65] := rfl
  rw [e1, e2, H3.out, H4.out]
  clear e1 e2
  go_wp2_with fail
  go_ret
  exact ⟨rfl, hb1.trans (hb2.mono hb1.size)⟩

set_option maxHeartbeats 1000000 in
theorem walkOpticalDigits {X Y : Prop} (w : World) (c : Int) (w0 : (Lit.int .u8 c).wf = true) (s : ByteArray) (hs : s.size ≤ 140737488351232) (_hsz : X) (_hL : Y) (hsh : w.ShapedOpen Tryd.prog) :
    Calls Tryd.prog 3 #[.int .u8 c, .string s] w fun e w' => e = .returned (.bool true) ∧ Below w.heap.size w w' := by
  have hw := Opt.lax_of hsh
  have bc := bounds_u8 w0
  have hs' : s.size ≤ maxLen := by unfold maxLen; omega
  clear hsh
  go_enter Tryd.func3, Tryd.ntmps3
  go_wp2_with fail
  refine (odigit _ _ hs).mono ?_; rintro e w1 ⟨rfl, hb1⟩
  go_wp2_with fail
  refine (rdigit _ _ hs).mono ?_; rintro e w2 ⟨rfl, hb2⟩
  replace hb2 := hb1.trans (hb2.mono hb1.size)
  go_wp2_with fail
  refine (awake_any _ (hw.below hb2)).mono ?_; rintro e w3 ⟨rfl, hb3⟩
  replace hb3 := hb2.trans (hb3.mono hb2.size)
  go_wp2_with fail
  refine (ovalue _ _ bc.1 bc.2).mono ?_; rintro e w' ⟨rfl, rfl⟩
  go_wp2_with fail
  refine (rvalue _ _ bc.1 bc.2).mono ?_; rintro e w' ⟨rfl, rfl⟩
  go_wp2_with fail
  refine (ovalid _ _ hs').mono ?_; rintro e w' ⟨rfl, rfl⟩
  go_wp2_with fail
  refine (rvalid10 _ _ hs').mono ?_; rintro e w' ⟨rfl, rfl⟩
  go_wp2_with fail
  go_ret
  exact ⟨rfl, hb3⟩

/-- The second form's bound, of two strings and a number. -/
theorem Opt.bulk2 {H : Type} {a b : List UInt8} {n : Lit} (h : Rows.uptoSmall H ([DataW.lit (.string a), DataW.lit (.string b), DataW.lit n] ++ []) = true) : a.length ≤ 1048576 ∧ b.length ≤ 1048576 := by
  have h1 := of_decide_eq_true h
  simp only [List.append_nil, Rows.uptoBulkAll, Rows.uptoBulk] at h1
  omega

set_option maxHeartbeats 1000000 in
theorem walkOpticalNames {H : Type} {X Y : Prop} (w : World) (a : ByteArray) (_ha : a.size ≤ 140737488351232) (b : ByteArray) (_hb : b.size ≤ 140737488351232) (n : Int) (_w0 : (Lit.int .i64 n).wf = true) (_hsz : X)
    (hk : Rows.uptoSmall H ([DataW.lit (.string a.data.toList), DataW.lit (.string b.data.toList), DataW.lit (.int .i64 n)] ++ []) = true) (_hL : Y) (hsh : w.ShapedOpen Tryd.prog) :
    Calls Tryd.prog 4 #[.string a, .string b, .int .i64 n] w fun e w' => e = .returned (.bool true) ∧ Below w.heap.size w w' := by
  have hw := Opt.lax_of hsh
  obtain ⟨ha, hb⟩ := Opt.bulk2 hk
  rw [Opt.size_len] at ha hb
  have ha' : a.size ≤ maxLen := by unfold maxLen; omega
  have hb' : b.size ≤ maxLen := by unfold maxLen; omega
  clear hsh hk
  go_enter Tryd.func4, Tryd.ntmps4
  go_wp2_with fail
  refine (onames_any _ _ _ _ hw (by omega)).mono ?_; rintro e w1 ⟨rfl, hb1⟩
  go_wp2_with fail
  refine (rnames_any _ _ _ _ (by omega)).mono ?_; rintro e w2 ⟨rfl, hb2⟩
  replace hb2 := hb1.trans (hb2.mono hb1.size)
  go_wp2_with fail
  refine (awake_any _ (hw.below hb2)).mono ?_; rintro e w3 ⟨rfl, hb3⟩
  replace hb3 := hb2.trans (hb3.mono hb2.size)
  go_wp2_with fail
  refine (oname _ _ ha').mono ?_; rintro e w' ⟨rfl, rfl⟩
  go_wp2_with fail
  refine (rname _ _ ha').mono ?_; rintro e w' ⟨rfl, rfl⟩
  go_wp2_with fail
  refine (oname _ _ hb').mono ?_; rintro e w' ⟨rfl, rfl⟩
  go_wp2_with fail
  refine (rname _ _ hb').mono ?_; rintro e w' ⟨rfl, rfl⟩
  go_wp2_with fail
  go_ret
  exact ⟨rfl, hb3⟩
end Go.Proofs.YtdejgomljelnlaaDoor
