/- Several texts in one: StrProto2, StrAwake. -/
import Derived.Test.YtihbmgkbipeakaaGreatWebG23
import Derived.Test.YtihbmgkbipeakaaGreatWebG7
import Derived.Test.YtihbmgkbipeakaaGreatWebG13
import Derived.Test.YtihbmgkbipeakaaGreatWebG22
namespace Go.Proofs.YtihbmgkbipeakaaGreat
open Go.RowKit

/-- A row of strands that is read. -/
def StrandsAt (w : World) (A : Option Addr) (l : List (ByteArray × List (Int × T))) : Prop := l.length = 0 ∨ ∃ b off, A = some ⟨b, off, none⟩ ∧ ∀ i (h : i < l.length), ∃ A' c', w.cell? ⟨b, off + i * 2, none⟩ = some (.string l[i].1) ∧ w.cell? ⟨b, off + i * 2 + 1, none⟩ = some (.slice A' l[i].2.length c') ∧ MovesAt w A' l[i].2
theorem StrandsAt.later {w w' : World} {A : Option Addr} {l : List (ByteArray × List (Int × T))} (h : StrandsAt w A l) (hb : Below w.heap.size w w') : StrandsAt w' A l := by
  rcases h with h | ⟨b, off, e, hc⟩
  · exact .inl h
  · refine .inr ⟨b, off, e, fun i hi => ?_⟩
    obtain ⟨A', c', h0, h1, h2⟩ := hc i hi
    exact ⟨A', c', cell_later hb h0, cell_later hb h1, h2.later hb⟩
/-- A slice of terms. -/
def TermsL (w : World) (v : Value) (L : List T) : Prop := TermAt w (.agg #[.int .i64 0, .string ⟨#[]⟩, v]) (.mk 0 ⟨#[]⟩ L)
theorem TermsRow.list {w : World} {base : Nat} {v : Value} {L : List T} (h : TermsRow w base v L) : TermsL w v L := (h.term 0 ⟨#[]⟩ (by omega) (by decide)).at
/-- What Protocol leaves. -/
def ProtoPost (l : List (ByteArray × List (Int × T))) (K : List T) (w : World) (e : Ending) (w' : World) : Prop :=
  ∃ A c A' c', e = .returned (.tuple #[.slice A l.length c, .slice A' K.length c', .bool true]) ∧ StrandsAt w' A l ∧ TermsL w' (.slice A' K.length c') K ∧ Below w.heap.size w w'
theorem cells_at (w : World) (xs : Array Value) (ty : TypeId) (j : Nat) : (w.alloc (.cells xs ty)).cell? ⟨w.heap.size, j, none⟩ = xs[j]? := by
  have h := heap_alloc_new w (.cells xs ty)
  unfold World.cell?
  rw [h]
  rfl

theorem strands_new2 {w : World} {s0 s1 : ByteArray × List (Int × T)} {A0 A1 : Option Addr} {c0 c1 : Nat} (h0 : MovesAt w A0 s0.2) (h1 : MovesAt w A1 s1.2) :
    StrandsAt (w.alloc (.cells #[.string s0.1, .slice A0 s0.2.length c0, .string s1.1, .slice A1 s1.2.length c1] 49)) (some ⟨w.heap.size, 0, none⟩) [s0, s1] := by
  have hb := below_alloc1 w (.cells #[.string s0.1, .slice A0 s0.2.length c0, .string s1.1, .slice A1 s1.2.length c1] 49)
  refine .inr ⟨_, 0, rfl, fun i hi => ?_⟩
  match i, hi with
  | 0, _ => exact ⟨A0, c0, by rw [cells_at]; rfl, by rw [cells_at]; rfl, h0.later hb⟩
  | 1, _ => exact ⟨A1, c1, by rw [cells_at]; rfl, by rw [cells_at]; rfl, h1.later hb⟩
/-- The head of the loop of what is known. -/
def KnAtP (w0 : World) (L : List T) (v : Value) (wr : World) : Prop := TermsRow wr w0.heap.size v L ∧ Below w0.heap.size w0 wr
theorem KnAtP.step {w0 wr w3 w4 : World} {L : List T} {kv : Value} {xs : List Value} {u0 u1 u2 : Value} {t : T} {g cap : Nat} (hrow : TermsRow wr w0.heap.size kv L) (hb : Below w0.heap.size w0 wr)
    (hx : ∀ i (h : i < L.length), ∃ u0 u1 u2, xs[i * 3]? = some u0 ∧ xs[i * 3 + 1]? = some u1 ∧ xs[i * 3 + 2]? = some u2 ∧ TermIn (but w0.heap.size kv.ownBlock) wr (.agg #[u0, u1, u2]) L[i]) (hl : xs.length = L.length * 3)
    (hb3 : Below wr.heap.size wr w3) (ht : TermIn (from_ wr.heap.size) w3 (.agg #[u0, u1, u2]) t)
    (hown : w4.ownsRow w0.heap.size 29 3 (.slice (some ⟨g, 0, none⟩) (L.length + 1) cap) (L.length + 1) (xs ++ [u0, u1, u2])) (hgrow : (w3.alloc (.cells #[u0, u1, u2] 29)).grownBy w4 kv.ownBlock)
    (hat : kv.ownBlock = some g ∨ g = w3.heap.size + 1) : KnAtP w0 (L ++ [t]) (.slice (some ⟨g, 0, none⟩) (L.length + 1) cap) w4 := by
  have hb3' := hb3.trans ((below_alloc1 w3 (.cells #[u0, u1, u2] 29)).mono hb3.size)
  refine ⟨?_, (hb.trans (hb3'.mono hb.size)).grown hgrow (by rw [size_alloc1]; have := hb3.size; have := hb.size; omega) (fun k hk => (hrow.block k hk).1)⟩
  exact TermsRow.snoc (w := w3.alloc (.cells #[u0, u1, u2] 29)) (H := w3.heap.size + 1) (t := t) (fun i hi => by
      obtain ⟨a0, a1, a2, b0, b1, b2, b3⟩ := hx i hi
      exact ⟨a0, a1, a2, b0, b1, b2, b3.keep fun b hb hlt => ⟨hb, hb3'.block b hlt⟩⟩) hl
    (ht.keep fun b hbb hlt => ⟨but_iff.2 ⟨by have := of_decide_eq_true hbb; have := hb.size; omega, fun e => by have := (hrow.block b e).2; have := of_decide_eq_true hbb; omega⟩, Below.heap_alloc w3 _ b hlt⟩)
    hown hgrow hat (by rw [size_alloc1])

set_option maxRecDepth 100000 in
set_option maxHeartbeats 4000000 in
theorem oproto_exchange (w : World) : Calls Tryz.prog 30 #[.string b_exchange] w (ProtoPost [s_cE, s_rE] m_known w) := by
  obtain ⟨i0, hi0, hz0, hz1, hz2⟩ := info_parts Tryz.infoT
  go_enter Tryz.func30, Tryz.ntmps30
  go_wp2_with fail
  refine (ochip_exchange _).mono ?_; rintro e w1 ⟨A0, c0, rfl, hm, hb⟩
  have HM0 := Lib.hid hm.at
  have HB1 := Lib.hid (hb)
  clear hm hb
  go_wp2_with fail
  refine (oreader_exchange _).mono ?_; rintro e w2 ⟨A1, c1, rfl, hm, hb⟩
  have HM0 := Lib.hid (MovesAt.later HM0.out hb)
  have HM1 := Lib.hid hm.at
  have HB2 := Lib.hid (HB1.out.trans (hb.mono HB1.out.size))
  clear hm hb
  go_upto_region 12 with fail
  have hst := strands_new2 (s0 := s_cE) (A0 := A0) (c0 := c0) (s1 := s_rE) (A1 := A1) (c1 := c1) HM0.out HM1.out
  have hb0 := HB2.out.trans ((below_alloc1 w2 (.cells #[.string s_cE.1, .slice A0 s_cE.2.length c0, .string s_rE.1, .slice A1 s_rE.2.length c1] 49)).mono HB2.out.size)
  obtain ⟨sa, hsa⟩ : ∃ sa : Addr, (⟨w2.heap.size, 0, none⟩ : Addr) = sa := ⟨_, rfl⟩
  rw [hsa] at hst ⊢
  change StrandsAt (w2.alloc (.cells #[.string s_cE.1, .slice A0 s_cE.2.length c0, .string s_rE.1, .slice A1 s_rE.2.length c1] 49)) (some sa) _ at hst
  generalize w2.alloc (.cells #[.string s_cE.1, .slice A0 s_cE.2.length c0, .string s_rE.1, .slice A1 s_rE.2.length c1] 49) = wa at hst hb0 ⊢
  have HSA := Lib.hid hst; have HB0 := Lib.hid hb0
  clear hst hb0 hsa HM0 HM1 HB1 HB2
  have hwt : Below wa.heap.size wa (wa.alloc (.cells #[.string ⟨#[100, 97, 116, 97]⟩, .string ⟨#[115, 105, 103, 110, 40, 115, 116, 97, 116, 101, 44, 32, 60, 100, 97, 116, 97, 44, 32, 112, 111, 119, 101, 114, 40, 99, 104, 105, 112, 41, 62, 41]⟩, .string ⟨#[112, 111, 119, 101, 114, 40, 115, 116, 97, 116, 101, 41]⟩, .string ⟨#[101, 118, 105, 108]⟩, .string ⟨#[112, 111, 119, 101, 114, 40, 101, 118, 105, 108, 41]⟩] 9)) := below_alloc1 wa _
  have htx : TextsAt (wa.alloc (.cells #[.string ⟨#[100, 97, 116, 97]⟩, .string ⟨#[115, 105, 103, 110, 40, 115, 116, 97, 116, 101, 44, 32, 60, 100, 97, 116, 97, 44, 32, 112, 111, 119, 101, 114, 40, 99, 104, 105, 112, 41, 62, 41]⟩, .string ⟨#[112, 111, 119, 101, 114, 40, 115, 116, 97, 116, 101, 41]⟩, .string ⟨#[101, 118, 105, 108]⟩, .string ⟨#[112, 111, 119, 101, 114, 40, 101, 118, 105, 108, 41]⟩] 9)) (some ⟨wa.heap.size, 0, none⟩) x_known := texts_new wa x_known
  go_wp2_with fail
  generalize wa.alloc (.cells #[.string ⟨#[100, 97, 116, 97]⟩, .string ⟨#[115, 105, 103, 110, 40, 115, 116, 97, 116, 101, 44, 32, 60, 100, 97, 116, 97, 44, 32, 112, 111, 119, 101, 114, 40, 99, 104, 105, 112, 41, 62, 41]⟩, .string ⟨#[112, 111, 119, 101, 114, 40, 115, 116, 97, 116, 101, 41]⟩, .string ⟨#[101, 118, 105, 108]⟩, .string ⟨#[112, 111, 119, 101, 114, 40, 101, 118, 105, 108, 41]⟩] 9) = w0 at htx hwt ⊢
  have HTX := Lib.hid htx
  have HB1 := Lib.hid (HB0.out.trans (hwt.mono HB0.out.size))
  have HSA1 := Lib.hid (HSA.out.later hwt)
  clear htx hwt
  go_loopw [35, 6] (fun i k wr => ∃ j : Nat, j ≤ 5 ∧ i = .int .i64 j ∧ KnAtP w0 (m_known.take j) k wr) (fun i _ _ => 5 - (intOf i).toNat)
  case atStart => exact ⟨0, Nat.zero_le _, rfl, TermsRow.nil _ _, Below.refl _ _⟩
  case round =>
    obtain ⟨j, hj, rfl, hrow, hbw⟩ := hrel
    by_cases hlt : j < 5
    · obtain ⟨b, off, hb', d0⟩ := HTX.out.cell j hlt
      have e0 := cell_later hbw d0
      obtain ⟨x, hx⟩ : ∃ x, x_known[j]'hlt = x := ⟨_, rfl⟩
      rw [hx] at e0
      have HTK := Lib.hid (show m_known.take j ++ [(T.parse x).1] = m_known.take (j + 1) by rw [List.take_succ_eq_append_getElem (show j < m_known.length from hlt)]; congr 2; rw [← hx]; unfold m_known; rw [List.getElem_map])
      injection hb' with hb'; injection hb' with e1 e2 e3; subst e1; subst e2
      clear d0 hx
      rw [Nat.zero_add] at e0
      have hi : (j : Int) < 5 := by omega
      obtain ⟨xs, hown, hxs⟩ := hrow.owns
      have hlen : (List.take j m_known).length = j := by rw [List.length_take]; exact Nat.min_eq_left (by show j ≤ 5; omega)
      have HSTEP := Lib.hid (fun t w3 w4 u0 u1 u2 g cap => KnAtP.step (t := t) (w3 := w3) (w4 := w4) (u0 := u0) (u1 := u1) (u2 := u2) (g := g) (cap := cap) hrow hbw hxs hown.1)
      rw [hlen] at hown HSTEP
      have HOWN := Lib.hid hown; have HLT := Lib.hid hlt; have HBW := Lib.hid hbw
      clear hrow hbw hxs hown hlen hlt hj
      go_wp2_with fail
      refine (omove 0 x _).mono ?_; rintro e w3 ⟨A3, C3, rfl, hti, hb3⟩
      have HOWN3 := Lib.hid ((own_later HOWN.out hb3).alloc (.cells #[.int .i64 (T.parse x).1.kind, .string (T.parse x).1.name, .slice A3 (T.parse x).1.kids.length C3] 29))
      have HONE := Lib.hid hti.one
      have HTI := Lib.hid hti; have HB3 := Lib.hid hb3
      have HMS := Lib.hid (show w0.heap.size ≤ (w3.alloc (.cells #[.int .i64 (T.parse x).1.kind, .string (T.parse x).1.name, .slice A3 (T.parse x).1.kids.length C3] 29)).heap.size by rw [size_alloc1]; have := hb3.size; have := HBW.out.size; omega)
      have hfld : ∀ W, Sem.run Tryz.prog (Instr.field 52 (Value.agg #[.int .i64 0, .int .i64 (T.parse x).1.kind, .string (T.parse x).1.name, .slice A3 (T.parse x).1.kids.length C3]) 1) W = .ok (.agg #[.int .i64 (T.parse x).1.kind, .string (T.parse x).1.name, .slice A3 (T.parse x).1.kids.length C3]) W := fun W => by rfl
      clear hti hb3 e0
      go_wp2_with (at_builtin; refine wpList_append_lies _ rfl _ _ 27 rfl w0.heap.size 29 i0 _ 3 48 Tryz.underlying27 hi0 hz0 hz1 hz2 rfl (by omega) _ j _ rfl HOWN3.out ⟨w3.heap.size, 0, none⟩ 1 1 _ rfl rfl (World.news_of_block (heap_alloc_new _ _)) HONE.out (by omega) (by unfold maxLen; omega) (by omega) HMS.out _ rfl ?_; intro g4 cap4 w4 hown4 hg4 hat4 hlt4)
      have hfin := HSTEP.out (T.parse x).1 w3 w4 _ _ _ g4 cap4 HB3.out HTI.out hown4 hg4 (hat4.imp id (fun h => h.trans (size_alloc1 _ _)))
      rw [HTK.out] at hfin
      have HFIN := Lib.hid hfin
      clear hfin hg4 hown4 hat4 hlt4
      go_wp2_with fail
      go_roundw
      case rel => exact ⟨j + 1, HLT.out, by go_num, HFIN.out⟩
      case measure => have := HLT.out; simp [intOf]; omega
    · obtain rfl : j = 5 := by omega
      rw [List.take_of_length_le (show m_known.length ≤ 5 from Nat.le_refl _)] at hrow
      obtain ⟨A6, c6, hkv, _, _⟩ := hrow.shape
      have HL := Lib.hid (show TermsL wr _ m_known from hrow.list)
      rw [hkv] at HL
      have HBW := Lib.hid hbw
      subst hkv
      clear hrow hbw
      go_wp2_with fail
      refine bodyPost_ret (v := .tuple #[.slice (some sa) 2 _, .slice A6 m_known.length c6, .bool true]) (by simp [results, Tryz.results30, go_sem]; try rfl) rfl ?_
      exact ⟨_, _, _, _, rfl, HSA1.out.later HBW.out, HL.out, HB1.out.trans (HBW.out.mono HB1.out.size)⟩
end Go.Proofs.YtihbmgkbipeakaaGreat

namespace Go.Proofs.YtihbmgkbipeakaaGreat
open Go.RowKit

def a_pat : ByteArray := ⟨#[60, 63, 97, 44, 32, 63, 97, 62]⟩
def a_xy : ByteArray := ⟨#[60, 120, 44, 32, 121, 62]⟩
def a_xx : ByteArray := ⟨#[60, 120, 44, 32, 120, 62]⟩
def n_a : ByteArray := ⟨#[97]⟩
def t_x : T := (.mk 1 ⟨#[120]⟩ [])
def t_y : T := (.mk 1 ⟨#[121]⟩ [])
def t_pat : T := .mk 3 ⟨#[]⟩ [.mk 2 n_a [], .mk 2 n_a []]
def t_xy : T := .mk 3 ⟨#[]⟩ [t_x, t_y]
def t_xx : T := .mk 3 ⟨#[]⟩ [t_x, t_x]
set_option maxRecDepth 100000 in
theorem is_t_pat : (T.parse a_pat).1 = t_pat := by kernel_rfl
set_option maxRecDepth 100000 in
theorem is_t_xy : (T.parse a_xy).1 = t_xy := by kernel_rfl
set_option maxRecDepth 100000 in
theorem is_t_xx : (T.parse a_xx).1 = t_xx := by kernel_rfl
theorem bulk_t_x : t_x.bulk ≤ 1048576 := of_decide_eq_true (by kernel_rfl)
theorem bulk_t_y : t_y.bulk ≤ 1048576 := of_decide_eq_true (by kernel_rfl)
theorem bulk_t_pat : t_pat.bulk ≤ 1048576 := of_decide_eq_true (by kernel_rfl)
theorem bulk_t_xy : t_xy.bulk ≤ 1048576 := of_decide_eq_true (by kernel_rfl)
theorem bulk_t_xx : t_xx.bulk ≤ 1048576 := of_decide_eq_true (by kernel_rfl)
theorem law_term_is {s : ByteArray} {t : T} (h : (T.parse s).1 = t) (w : World) : Calls Tryz.prog 57 #[.string s] w (RetT t w) := by
  have := law_term s w; rw [h] at this; exact this
set_option maxRecDepth 100000 in
theorem ok_cE : okStrand b_chip m_cE = 0 := by kernel_rfl
set_option maxRecDepth 100000 in
theorem small_cE : ∀ m ∈ m_cE, m.2.bulk ≤ 1048576 := fun m hm => of_decide_eq_true (List.all_eq_true.1 (show (m_cE.all fun m => decide (m.2.bulk ≤ 1048576)) = true by kernel_rfl) m hm)
theorem valid_cE (A : Option Addr) (c : Nat) (w : World) (h : MovesAt w A m_cE) : Calls Tryz.prog 28 #[.agg #[.string b_chip, .slice A m_cE.length c]] w fun e w' => e = .returned (.int .i64 0) ∧ Below w.heap.size w w' := by
  have := ovalidS b_chip m_cE A c w (by decide) h small_cE (by decide)
  rw [ok_cE] at this; exact this
set_option maxRecDepth 100000 in
theorem ok_rE : okStrand b_reader m_rE = 0 := by kernel_rfl
set_option maxRecDepth 100000 in
theorem small_rE : ∀ m ∈ m_rE, m.2.bulk ≤ 1048576 := fun m hm => of_decide_eq_true (List.all_eq_true.1 (show (m_rE.all fun m => decide (m.2.bulk ≤ 1048576)) = true by kernel_rfl) m hm)
theorem valid_rE (A : Option Addr) (c : Nat) (w : World) (h : MovesAt w A m_rE) : Calls Tryz.prog 28 #[.agg #[.string b_reader, .slice A m_rE.length c]] w fun e w' => e = .returned (.int .i64 0) ∧ Below w.heap.size w w' := by
  have := ovalidS b_reader m_rE A c w (by decide) h small_rE (by decide)
  rw [ok_rE] at this; exact this
theorem awake_match1 (a b : Value) (w : World) (h : TermAt w a t_pat) (h' : TermAt w b t_xy) : Calls Tryz.prog 35 #[a, b, .slice none 0 0] w fun e w' => e = .returned (.tuple #[.slice none 0 0, .bool false]) ∧ Below w.heap.size w w' := by
  refine (omatch_pair n_a t_x t_y t_pat t_xy a b w rfl rfl h h' bulk_t_x bulk_t_y bulk_t_pat bulk_t_xy (by kernel_rfl) (by kernel_rfl) (by kernel_rfl)).mono ?_
  rintro e w' ⟨hb, hr⟩
  rcases hr with ⟨h1, _⟩ | ⟨_, h2⟩
  · exact absurd h1 (by rw [show decide (t_x.cmp t_y = 0) = false by kernel_rfl]; simp)
  · exact ⟨h2, hb⟩
theorem awake_match2 (a b : Value) (w : World) (h : TermAt w a t_pat) (h' : TermAt w b t_xx) : Calls Tryz.prog 35 #[a, b, .slice none 0 0] w fun e w' => ∃ g off cap, e = .returned (.tuple #[.slice (some ⟨g, off, none⟩) 1 cap, .bool true]) ∧ w'.cell? ⟨g, off, none⟩ = some (.string ⟨#[97]⟩) ∧ Below w.heap.size w w' := by
  refine (omatch_pair n_a t_x t_x t_pat t_xx a b w rfl rfl h h' bulk_t_x bulk_t_x bulk_t_pat bulk_t_xx (by kernel_rfl) (by kernel_rfl) (by kernel_rfl)).mono ?_
  rintro e w' ⟨hb, hr⟩
  rcases hr with ⟨_, v', h1, h2⟩ | ⟨h1, _⟩
  · obtain ⟨g, off, cap, A, c, rfl, d0, _⟩ := h2
    exact ⟨g, off, cap, h1, d0, hb⟩
  · exact absurd h1 (by rw [show decide (t_x.cmp t_x = 0) = true by kernel_rfl]; simp)
theorem awake_proto (w : World) : Calls Tryz.prog 30 #[.string b_exchange] w fun e w' => ∃ g off c A' c' A0 d0 A1 d1, e = .returned (.tuple #[.slice (some ⟨g, off, none⟩) 2 c, .slice A' 5 c', .bool true]) ∧
    w'.cell? ⟨g, off, none⟩ = some (.string b_chip) ∧ w'.cell? ⟨g, off + 1, none⟩ = some (.slice A0 m_cE.length d0) ∧ MovesAt w' A0 m_cE ∧ w'.cell? ⟨g, off + 2, none⟩ = some (.string b_reader) ∧ w'.cell? ⟨g, off + 3, none⟩ = some (.slice A1 m_rE.length d1) ∧ MovesAt w' A1 m_rE ∧ Below w.heap.size w w' := by
  refine (oproto_exchange w).mono ?_
  rintro e w' ⟨A, c, A', c', rfl, hs, _, hb⟩
  rcases hs with h0 | ⟨g, off, rfl, hc⟩
  · exact absurd h0 (by decide)
  · obtain ⟨A0, d0, x0, x1, x2⟩ := hc 0 (by decide)
    obtain ⟨A1, d1, y0, y1, y2⟩ := hc 1 (by decide)
    exact ⟨g, off, c, A', c', A0, d0, A1, d1, rfl, x0, x1, x2, y0, y1, y2, hb⟩

set_option maxRecDepth 100000 in
set_option maxHeartbeats 8000000 in
theorem awake42 (w : World) : Calls Tryz.prog 27 #[] w fun e w' => e = .returned (.bool true) ∧ Below w.heap.size w w' := by
  go_enter Tryz.func27, Tryz.ntmps27
  go_wp2_with fail
  refine (law_term_is is_t_pat _).mono ?_; rintro e w1 ⟨A1, c1, rfl, ht1, hb1⟩
  have HB1 := Lib.hid hb1; have HT1 := Lib.hid ht1.at
  clear hb1 ht1
  go_wp2_with fail
  refine (law_term_is is_t_xy _).mono ?_; rintro e w2 ⟨A2, c2, rfl, ht2, hb2⟩
  have HB2 := Lib.hid (HB1.out.trans (hb2.mono HB1.out.size)); have HT2 := Lib.hid ht2.at; have HT1 := Lib.hid (HT1.out.later hb2)
  clear hb2 ht2
  go_wp2_with fail
  refine (awake_match1 _ _ _ HT1.out HT2.out).mono ?_; rintro e w3 ⟨rfl, hb3⟩
  have HB3 := Lib.hid (HB2.out.trans (hb3.mono HB2.out.size))
  clear hb3
  go_wp2_with fail
  refine (law_term_is is_t_pat _).mono ?_; rintro e w4 ⟨A4, c4, rfl, ht4, hb4⟩
  have HB4 := Lib.hid (HB3.out.trans (hb4.mono HB3.out.size)); have HT4 := Lib.hid ht4.at
  clear hb4 ht4
  go_wp2_with fail
  refine (law_term_is is_t_xx _).mono ?_; rintro e w5 ⟨A5, c5, rfl, ht5, hb5⟩
  have HB5 := Lib.hid (HB4.out.trans (hb5.mono HB4.out.size)); have HT5 := Lib.hid ht5.at; have HT4 := Lib.hid (HT4.out.later hb5)
  clear hb5 ht5
  go_wp2_with fail
  refine (awake_match2 _ _ _ HT4.out HT5.out).mono ?_; rintro e w6 ⟨g6, off6, cap6, rfl, hc6, hb6⟩
  have HB6 := Lib.hid (HB5.out.trans (hb6.mono HB5.out.size)); have HC6 := Lib.hid hc6
  clear hb6 hc6
  go_wp2_with fail
  refine (awake_proto _).mono ?_; rintro e w7 ⟨g, off, c, A', c', A0, d0, A8, d8, rfl, x0, x1, x2, y0, y1, y2, hb7⟩
  have hc6 := cell_later hb7 HC6.out
  have HB7 := Lib.hid (HB6.out.trans (hb7.mono HB6.out.size)); have HM0 := Lib.hid x2; have HM1 := Lib.hid y2; have HY0 := Lib.hid y0; have HY1 := Lib.hid y1
  clear hb7 x2 y2
  go_wp2_with fail
  refine (valid_cE _ _ _ HM0.out).mono ?_; rintro e w8 ⟨rfl, hb8⟩
  have z0 := cell_later hb8 HY0.out; have z1 := cell_later hb8 HY1.out
  have HB8 := Lib.hid (HB7.out.trans (hb8.mono HB7.out.size)); have HM1 := Lib.hid (HM1.out.later hb8)
  clear hb8 hc6 x0 x1 y0 y1
  go_wp2_with fail
  refine (valid_rE _ _ _ HM1.out).mono ?_; rintro e w9 ⟨rfl, hb9⟩
  have HB9 := Lib.hid (HB8.out.trans (hb9.mono HB8.out.size))
  clear hb9 z0 z1
  go_wp2_with fail
  go_ret
  exact ⟨rfl, HB9.out⟩
end Go.Proofs.YtihbmgkbipeakaaGreat
