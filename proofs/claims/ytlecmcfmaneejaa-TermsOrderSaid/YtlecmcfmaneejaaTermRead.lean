/- Chapter 40: a term is read back from its text, plain: names and signs. -/
import Derived.Test.YtlecmcfmaneejaaTermParse
namespace Go.Proofs.Ytlecmcfmaneejaa

namespace T
theorem at_mid (a q b : List UInt8) (j : Nat) (h : j < q.length) : (a ++ q ++ b)[a.length + j]? = q[j]? := by
  rw [List.append_assoc, List.getElem?_append_right (by omega), Nat.add_sub_cancel_left, List.getElem?_append_left h]
theorem now_mid (a b : List UInt8) (c d : UInt8) : now (a ++ c :: b) a.length d = (c == d) := by
  unfold now
  rw [List.getElem?_append_right (Nat.le_refl _), Nat.sub_self]
  simp
theorem now_end (a : List UInt8) (d : UInt8) : now a a.length d = false := by
  unfold now
  rw [List.getElem?_eq_none (Nat.le_refl _)]
  rfl
theorem need_mid : ∀ (q a b : List UInt8), need (a ++ q ++ b) q a.length = .ok (a.length + q.length)
  | [], a, b => by simp [need]
  | c :: cs, a, b => by
    have e : a ++ (c :: cs) ++ b = (a ++ [c]) ++ cs ++ b := by simp
    have h := need_mid cs (a ++ [c]) b
    simp only [need]
    rw [show now (a ++ (c :: cs) ++ b) a.length c = true by rw [List.append_assoc, List.cons_append, now_mid]; simp, if_pos rfl, e]
    rw [List.length_append] at h
    simp only [List.length_cons, List.length_nil] at h ⊢
    rw [h]; congr 1; omega
/-- Behind a name stands nothing that belongs to it. -/
def Stop : List UInt8 → Prop
  | [] => True
  | c :: _ => low c = false ∧ dig c = false
theorem nameRun_mid (a s b : List UInt8) (hs : nmAll s = true) (hb : Stop b) : ∀ n k, k ≤ s.length → s.length ≤ k + n → nameRun (a ++ s ++ b) a.length n (a.length + k) = a.length + s.length
  | 0, k, h1, h2 => by simp only [nameRun]; omega
  | n + 1, k, h1, h2 => by
    simp only [nameRun]
    rcases Nat.lt_or_ge k s.length with h | h
    · have hg : (a ++ s ++ b).getD (a.length + k) 0 = s.getD k 0 := by
        rw [List.getD_eq_getElem?_getD, List.getD_eq_getElem?_getD, at_mid a s b k h]
      have hok : nameOk (a ++ s ++ b) a.length (a.length + k) = true := by
        have := List.all_eq_true.1 hs k (List.mem_range.2 h)
        unfold nmAt at this
        unfold nameOk
        rw [hg, show decide (a.length < a.length + k) = decide (0 < k) by rw [decide_eq_decide]; omega]
        exact this
      rw [if_pos ⟨by simp; omega, hok⟩, Nat.add_assoc]
      exact nameRun_mid a s b hs hb n (k + 1) h (by omega)
    · have hk : k = s.length := by omega
      subst hk
      cases b with
      | nil => rw [if_neg (by simp)]
      | cons c r =>
        have hg : (a ++ s ++ c :: r).getD (a.length + s.length) 0 = c := by
          rw [List.getD_eq_getElem?_getD, List.getElem?_append_right (by simp), List.length_append, Nat.sub_self]; rfl
        rw [if_neg]
        rintro ⟨_, h⟩
        unfold nameOk at h
        rw [hg, hb.1, hb.2] at h
        simp at h
theorem nameEnd_mid (a s b : List UInt8) (hs : nmAll s = true) (h16 : s.length ≤ 16) (hb : Stop b) : nameEnd (a ++ s ++ b) a.length = a.length + s.length := by
  have := nameRun_mid a s b hs hb 16 0 (Nat.zero_le _) (by omega)
  exact this
theorem nameStr_mid (a s b : List UInt8) : nameStr (a ++ s ++ b) a.length (a.length + s.length) = strOf s := by
  unfold nameStr
  rw [List.append_assoc, List.drop_left, Nat.add_sub_cancel_left, List.take_left]
end T
end Go.Proofs.Ytlecmcfmaneejaa
