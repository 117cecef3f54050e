/- Chapter 40: Same of the reference, and light. -/
import Derived.Test.YtihbmgkbipeakaaGreatTermCmp
namespace Go.Proofs.YtihbmgkbipeakaaGreat
open Go.RowKit

theorem rsame (t t' : T) (v v' : Value) (w : World) (ht : TermAt w v t) (ht' : TermAt w v' t') (hb : t.bulk ≤ 1048576) (hb' : t'.bulk ≤ 1048576) :
    Calls Tryz.prog 25 #[v, v'] w fun e w' => e = .returned (.bool (decide (t.cmp t' = 0))) ∧ Below w.heap.size w w' := by
  cases ht with
  | mk k s A cap ks U h1 h2 h3 h4 hA hU =>
  cases ht' with
  | mk k' s' A' cap' ks' U' h1' h2' h3' h4' hA' hU' =>
    have hc := fun W hW hW' => rcmp ((T.mk k s ks).bulk + 1) (.mk k s ks) (.mk k' s' ks') (.agg #[.int .i64 k, .string s, .slice A ks.length cap]) (.agg #[.int .i64 k', .string s', .slice A' ks'.length cap']) W (by omega) hW hW' hb hb'
    have ht := TermAt.mk k s A cap ks U h1 h2 h3 h4 hA hU
    have ht' := TermAt.mk k' s' A' cap' ks' U' h1' h2' h3' h4' hA' hU'
    have HC := Lib.hid hc; have HT := Lib.hid ht; have HT' := Lib.hid ht'
    obtain ⟨c, hcv⟩ : ∃ c, (T.mk k s ks).cmp (.mk k' s' ks') = c := ⟨_, rfl⟩
    have HCV := Lib.hid hcv
    clear hc ht ht' hA hA' hU hU' hcv
    go_enter Tryz.func25, Tryz.ntmps25
    go_wp2_with fail
    have hb1 := (boxed_two w (.int .i64 k) (.string s) (.slice A ks.length cap) (.int .i64 k') (.string s') (.slice A' ks'.length cap') 29).2.2
    refine (HC.out _ (HT.out.later hb1) (HT'.out.later hb1)).mono ?_; rintro e w2 ⟨rfl, hb4⟩
    replace hb4 := hb1.trans (hb4.mono hb1.size)
    rw [HCV.out]
    go_wp2_with fail
    go_ret
    exact ⟨ret_bool (by rw [HCV.out, Bool.eq_iff_iff, beq_iff_eq, decide_eq_true_eq]), hb4⟩
end Go.Proofs.YtihbmgkbipeakaaGreat
