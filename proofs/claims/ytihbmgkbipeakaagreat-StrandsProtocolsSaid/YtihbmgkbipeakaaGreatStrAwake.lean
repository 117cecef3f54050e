/- Chapter 42: the walk of awake. -/
import Derived.Test.YtihbmgkbipeakaaGreatStrTerm
import Derived.Test.YtihbmgkbipeakaaGreatStrGD
import Derived.Test.YtihbmgkbipeakaaGreatStrGE
namespace Go.Proofs.YtihbmgkbipeakaaGreat
open Go.RowKit

def a_pat : ByteArray := ⟨#[60, 63, 97, 44, 32, 63, 97, 62]⟩
def a_xy : ByteArray := ⟨#[60, 120, 44, 32, 121, 62]⟩
def a_xx : ByteArray := ⟨#[60, 120, 44, 32, 120, 62]⟩
def n_a : ByteArray := ⟨#[97]⟩
def t_x : T := (.mk 1 ⟨#[120]⟩ [])
def t_y : T := (.mk 1 ⟨#[121]⟩ [])
def t_pat : T := .mk 3 ⟨#[]⟩ [.mk 2 n_a [], .mk 2 n_a []]
def t_xy : T := .mk 3 ⟨#[]⟩ [t_x, t_y]
def t_xx : T := .mk 3 ⟨#[]⟩ [t_x, t_x]
set_option maxRecDepth 100000 in
theorem is_t_pat : (T.parse a_pat).1 = t_pat := by kernel_rfl
set_option maxRecDepth 100000 in
theorem is_t_xy : (T.parse a_xy).1 = t_xy := by kernel_rfl
set_option maxRecDepth 100000 in
theorem is_t_xx : (T.parse a_xx).1 = t_xx := by kernel_rfl
theorem bulk_t_x : t_x.bulk ≤ 1048576 := of_decide_eq_true (by kernel_rfl)
theorem bulk_t_y : t_y.bulk ≤ 1048576 := of_decide_eq_true (by kernel_rfl)
theorem bulk_t_pat : t_pat.bulk ≤ 1048576 := of_decide_eq_true (by kernel_rfl)
theorem bulk_t_xy : t_xy.bulk ≤ 1048576 := of_decide_eq_true (by kernel_rfl)
theorem bulk_t_xx : t_xx.bulk ≤ 1048576 := of_decide_eq_true (by kernel_rfl)
theorem law_term_is {s : ByteArray} {t : T} (h : (T.parse s).1 = t) (w : World) : Calls Tryz.prog 57 #[.string s] w (RetT t w) := by
  have := law_term s w; rw [h] at this; exact this
set_option maxRecDepth 100000 in
theorem ok_cA : okStrand b_chip m_cA = 0 := by kernel_rfl
set_option maxRecDepth 100000 in
theorem small_cA : ∀ m ∈ m_cA, m.2.bulk ≤ 1048576 := fun m hm => of_decide_eq_true (List.all_eq_true.1 (show (m_cA.all fun m => decide (m.2.bulk ≤ 1048576)) = true by kernel_rfl) m hm)
theorem valid_cA (A : Option Addr) (c : Nat) (w : World) (h : MovesAt w A m_cA) : Calls Tryz.prog 28 #[.agg #[.string b_chip, .slice A m_cA.length c]] w fun e w' => e = .returned (.int .i64 0) ∧ Below w.heap.size w w' := by
  have := ovalidS b_chip m_cA A c w (by decide) h small_cA (by decide)
  rw [ok_cA] at this; exact this
set_option maxRecDepth 100000 in
theorem ok_cE : okStrand b_chip m_cE = 0 := by kernel_rfl
set_option maxRecDepth 100000 in
theorem small_cE : ∀ m ∈ m_cE, m.2.bulk ≤ 1048576 := fun m hm => of_decide_eq_true (List.all_eq_true.1 (show (m_cE.all fun m => decide (m.2.bulk ≤ 1048576)) = true by kernel_rfl) m hm)
theorem valid_cE (A : Option Addr) (c : Nat) (w : World) (h : MovesAt w A m_cE) : Calls Tryz.prog 28 #[.agg #[.string b_chip, .slice A m_cE.length c]] w fun e w' => e = .returned (.int .i64 0) ∧ Below w.heap.size w w' := by
  have := ovalidS b_chip m_cE A c w (by decide) h small_cE (by decide)
  rw [ok_cE] at this; exact this
set_option maxRecDepth 100000 in
theorem ok_cP : okStrand b_chip m_cP = 0 := by kernel_rfl
set_option maxRecDepth 100000 in
theorem small_cP : ∀ m ∈ m_cP, m.2.bulk ≤ 1048576 := fun m hm => of_decide_eq_true (List.all_eq_true.1 (show (m_cP.all fun m => decide (m.2.bulk ≤ 1048576)) = true by kernel_rfl) m hm)
theorem valid_cP (A : Option Addr) (c : Nat) (w : World) (h : MovesAt w A m_cP) : Calls Tryz.prog 28 #[.agg #[.string b_chip, .slice A m_cP.length c]] w fun e w' => e = .returned (.int .i64 0) ∧ Below w.heap.size w w' := by
  have := ovalidS b_chip m_cP A c w (by decide) h small_cP (by decide)
  rw [ok_cP] at this; exact this
set_option maxRecDepth 100000 in
theorem ok_rA : okStrand b_reader m_rA = 0 := by kernel_rfl
set_option maxRecDepth 100000 in
theorem small_rA : ∀ m ∈ m_rA, m.2.bulk ≤ 1048576 := fun m hm => of_decide_eq_true (List.all_eq_true.1 (show (m_rA.all fun m => decide (m.2.bulk ≤ 1048576)) = true by kernel_rfl) m hm)
theorem valid_rA (A : Option Addr) (c : Nat) (w : World) (h : MovesAt w A m_rA) : Calls Tryz.prog 28 #[.agg #[.string b_reader, .slice A m_rA.length c]] w fun e w' => e = .returned (.int .i64 0) ∧ Below w.heap.size w w' := by
  have := ovalidS b_reader m_rA A c w (by decide) h small_rA (by decide)
  rw [ok_rA] at this; exact this
set_option maxRecDepth 100000 in
theorem ok_rE : okStrand b_reader m_rE = 0 := by kernel_rfl
set_option maxRecDepth 100000 in
theorem small_rE : ∀ m ∈ m_rE, m.2.bulk ≤ 1048576 := fun m hm => of_decide_eq_true (List.all_eq_true.1 (show (m_rE.all fun m => decide (m.2.bulk ≤ 1048576)) = true by kernel_rfl) m hm)
theorem valid_rE (A : Option Addr) (c : Nat) (w : World) (h : MovesAt w A m_rE) : Calls Tryz.prog 28 #[.agg #[.string b_reader, .slice A m_rE.length c]] w fun e w' => e = .returned (.int .i64 0) ∧ Below w.heap.size w w' := by
  have := ovalidS b_reader m_rE A c w (by decide) h small_rE (by decide)
  rw [ok_rE] at this; exact this
set_option maxRecDepth 100000 in
theorem ok_rP : okStrand b_reader m_rP = 0 := by kernel_rfl
set_option maxRecDepth 100000 in
theorem small_rP : ∀ m ∈ m_rP, m.2.bulk ≤ 1048576 := fun m hm => of_decide_eq_true (List.all_eq_true.1 (show (m_rP.all fun m => decide (m.2.bulk ≤ 1048576)) = true by kernel_rfl) m hm)
theorem valid_rP (A : Option Addr) (c : Nat) (w : World) (h : MovesAt w A m_rP) : Calls Tryz.prog 28 #[.agg #[.string b_reader, .slice A m_rP.length c]] w fun e w' => e = .returned (.int .i64 0) ∧ Below w.heap.size w w' := by
  have := ovalidS b_reader m_rP A c w (by decide) h small_rP (by decide)
  rw [ok_rP] at this; exact this
theorem awake_match1 (a b : Value) (w : World) (h : TermAt w a t_pat) (h' : TermAt w b t_xy) : Calls Tryz.prog 35 #[a, b, .slice none 0 0] w fun e w' => e = .returned (.tuple #[.slice none 0 0, .bool false]) ∧ Below w.heap.size w w' := by
  refine (omatch_pair n_a t_x t_y t_pat t_xy a b w rfl rfl h h' bulk_t_x bulk_t_y bulk_t_pat bulk_t_xy (by kernel_rfl) (by kernel_rfl) (by kernel_rfl)).mono ?_
  rintro e w' ⟨hb, hr⟩
  rcases hr with ⟨h1, _⟩ | ⟨_, h2⟩
  · exact absurd h1 (by rw [show decide (t_x.cmp t_y = 0) = false by kernel_rfl]; simp)
  · exact ⟨h2, hb⟩
theorem awake_match2 (a b : Value) (w : World) (h : TermAt w a t_pat) (h' : TermAt w b t_xx) : Calls Tryz.prog 35 #[a, b, .slice none 0 0] w fun e w' => ∃ g off cap, e = .returned (.tuple #[.slice (some ⟨g, off, none⟩) 1 cap, .bool true]) ∧ w'.cell? ⟨g, off, none⟩ = some (.string ⟨#[97]⟩) ∧ Below w.heap.size w w' := by
  refine (omatch_pair n_a t_x t_x t_pat t_xx a b w rfl rfl h h' bulk_t_x bulk_t_x bulk_t_pat bulk_t_xx (by kernel_rfl) (by kernel_rfl) (by kernel_rfl)).mono ?_
  rintro e w' ⟨hb, hr⟩
  rcases hr with ⟨_, v', h1, h2⟩ | ⟨h1, _⟩
  · obtain ⟨g, off, cap, A, c, rfl, d0, _⟩ := h2
    exact ⟨g, off, cap, h1, d0, hb⟩
  · exact absurd h1 (by rw [show decide (t_x.cmp t_x = 0) = true by kernel_rfl]; simp)
theorem awake_proto (w : World) : Calls Tryz.prog 30 #[.string b_exchange] w fun e w' => ∃ g off c A' c' A0 d0 A1 d1, e = .returned (.tuple #[.slice (some ⟨g, off, none⟩) 2 c, .slice A' 5 c', .bool true]) ∧
    w'.cell? ⟨g, off, none⟩ = some (.string b_chip) ∧ w'.cell? ⟨g, off + 1, none⟩ = some (.slice A0 m_cE.length d0) ∧ MovesAt w' A0 m_cE ∧ w'.cell? ⟨g, off + 2, none⟩ = some (.string b_reader) ∧ w'.cell? ⟨g, off + 3, none⟩ = some (.slice A1 m_rE.length d1) ∧ MovesAt w' A1 m_rE ∧ Below w.heap.size w w' := by
  refine (oproto_exchange w).mono ?_
  rintro e w' ⟨A, c, A', c', rfl, hs, _, hb⟩
  rcases hs with h0 | ⟨g, off, rfl, hc⟩
  · exact absurd h0 (by decide)
  · obtain ⟨A0, d0, x0, x1, x2⟩ := hc 0 (by decide)
    obtain ⟨A1, d1, y0, y1, y2⟩ := hc 1 (by decide)
    exact ⟨g, off, c, A', c', A0, d0, A1, d1, rfl, x0, x1, x2, y0, y1, y2, hb⟩

set_option maxRecDepth 100000 in
set_option maxHeartbeats 8000000 in
theorem awake (w : World) : Calls Tryz.prog 27 #[] w fun e w' => e = .returned (.bool true) ∧ Below w.heap.size w w' := by
  go_enter Tryz.func27, Tryz.ntmps27
  go_wp2_with fail
  refine (law_term_is is_t_pat _).mono ?_; rintro e w1 ⟨A1, c1, rfl, ht1, hb1⟩
  have HB1 := Lib.hid hb1; have HT1 := Lib.hid ht1.at
  clear hb1 ht1
  go_wp2_with fail
  refine (law_term_is is_t_xy _).mono ?_; rintro e w2 ⟨A2, c2, rfl, ht2, hb2⟩
  have HB2 := Lib.hid (HB1.out.trans (hb2.mono HB1.out.size)); have HT2 := Lib.hid ht2.at; have HT1 := Lib.hid (HT1.out.later hb2)
  clear hb2 ht2
  go_wp2_with fail
  refine (awake_match1 _ _ _ HT1.out HT2.out).mono ?_; rintro e w3 ⟨rfl, hb3⟩
  have HB3 := Lib.hid (HB2.out.trans (hb3.mono HB2.out.size))
  clear hb3
  go_wp2_with fail
  refine (law_term_is is_t_pat _).mono ?_; rintro e w4 ⟨A4, c4, rfl, ht4, hb4⟩
  have HB4 := Lib.hid (HB3.out.trans (hb4.mono HB3.out.size)); have HT4 := Lib.hid ht4.at
  clear hb4 ht4
  go_wp2_with fail
  refine (law_term_is is_t_xx _).mono ?_; rintro e w5 ⟨A5, c5, rfl, ht5, hb5⟩
  have HB5 := Lib.hid (HB4.out.trans (hb5.mono HB4.out.size)); have HT5 := Lib.hid ht5.at; have HT4 := Lib.hid (HT4.out.later hb5)
  clear hb5 ht5
  go_wp2_with fail
  refine (awake_match2 _ _ _ HT4.out HT5.out).mono ?_; rintro e w6 ⟨g6, off6, cap6, rfl, hc6, hb6⟩
  have HB6 := Lib.hid (HB5.out.trans (hb6.mono HB5.out.size)); have HC6 := Lib.hid hc6
  clear hb6 hc6
  go_wp2_with fail
  refine (awake_proto _).mono ?_; rintro e w7 ⟨g, off, c, A', c', A0, d0, A8, d8, rfl, x0, x1, x2, y0, y1, y2, hb7⟩
  have hc6 := cell_later hb7 HC6.out
  have HB7 := Lib.hid (HB6.out.trans (hb7.mono HB6.out.size)); have HM0 := Lib.hid x2; have HM1 := Lib.hid y2; have HY0 := Lib.hid y0; have HY1 := Lib.hid y1
  clear hb7 x2 y2
  go_wp2_with fail
  refine (valid_cE _ _ _ HM0.out).mono ?_; rintro e w8 ⟨rfl, hb8⟩
  have z0 := cell_later hb8 HY0.out; have z1 := cell_later hb8 HY1.out
  have HB8 := Lib.hid (HB7.out.trans (hb8.mono HB7.out.size)); have HM1 := Lib.hid (HM1.out.later hb8)
  clear hb8 hc6 x0 x1 y0 y1
  go_wp2_with fail
  refine (valid_rE _ _ _ HM1.out).mono ?_; rintro e w9 ⟨rfl, hb9⟩
  have HB9 := Lib.hid (HB8.out.trans (hb9.mono HB8.out.size))
  clear hb9 z0 z1
  go_wp2_with fail
  go_ret
  exact ⟨rfl, HB9.out⟩
end Go.Proofs.YtihbmgkbipeakaaGreat
