/- Chapter 12: several texts in one (RdForm, RdChoice). -/
import Derived.Test.YtafbhadfeemppaaGreatDoorZonLines
import Derived.Test.YtafbhadfeemppaaGreatDoorShelf
import Derived.Test.YtafbhadfeemppaaGreatDoorRdComp
import Derived.Test.YtafbhadfeemppaaGreatDoorZonParseW
import Derived.Test.YtafbhadfeemppaaGreatDoorZonGM
namespace Go.Proofs.YtafbhadfeemppaaGreatDoor
open Go.RowKit

/-- A letter, some times. -/
noncomputable def runS (k : Int) (n : Nat) : ByteArray := ⟨(List.replicate n (b8 k)).toArray⟩
theorem repeatL_one (a : UInt8) : ∀ n, Lib.repeatL [a] n = List.replicate n a
  | 0 => rfl
  | n + 1 => by rw [Lib.repeatL, repeatL_one a n]; rfl
theorem conv_kind (k : Int) (hk : k = 97 ∨ k = 100 ∨ k = 108) (w : World) : Sem.run Tryz.prog (convert 21 9 (.int .i32 k)) w = .ok (.string ⟨#[b8 k]⟩) w := by
  rcases hk with rfl | rfl | rfl <;> kernel_rfl
set_option maxHeartbeats 400000 in
theorem orun (k : Int) (n : Nat) (w : World) (hk : k = 97 ∨ k = 100 ∨ k = 108) (hn : n ≤ 100) :
    Calls Tryz.prog 128 #[.int .i32 k, .int .i64 n] w fun e w' => e = .returned (.string (runS k n)) ∧ Below w.heap.size w w' := by
  have HC := Lib.hid (conv_kind k hk)
  have HR := Lib.hid (show ∀ W, Calls Tryz.prog 129 #[.string ⟨#[b8 k]⟩, .int .i64 n] W fun e w' => e = .returned (.string (runS k n)) ∧ Below W.heap.size W w' from fun W => by
    refine (Tryz.strings_Repeat ⟨#[b8 k]⟩ n W (by omega) (by show 1 * n ≤ _; omega)).mono ?_
    rintro e w' ⟨rfl, hb⟩
    refine ⟨?_, hb⟩
    show Ending.returned (.string ⟨(Lib.repeatL [b8 k] n).toArray⟩) = _
    rw [repeatL_one]; rfl)
  clear hk
  have hc := HC.out
  go_enter Tryz.func128, Tryz.ntmps128
  go_wp2_with fail
  clear hc
  refine (HR.out _).mono ?_; rintro e w1 ⟨rfl, hb1⟩
  go_wp2_with fail
  go_ret
  exact ⟨rfl, hb1⟩
/-- The format of so many lines of one width. -/
def fm (h w : Nat) : Nat := if h = 3 ∧ w = 30 then 1 else if h = 2 ∧ w = 36 then 2 else if h = 2 ∧ w = 44 then 3 else 0
/-- What may stand where: a letter a place. -/
noncomputable def fmL (f : Nat) : List ByteArray :=
  if f = 1 then [runS 108 5 ++ runS 97 9 ++ runS 100 1 ++ runS 97 15, runS 100 7 ++ runS 108 1 ++ runS 100 7 ++ runS 108 3 ++ runS 97 11 ++ runS 100 1, runS 108 30]
  else if f = 2 then [runS 108 36, runS 97 9 ++ runS 100 1 ++ runS 108 3 ++ runS 100 7 ++ runS 108 1 ++ runS 100 7 ++ runS 97 7 ++ runS 100 1]
  else if f = 3 then [runS 108 44, runS 97 9 ++ runS 100 1 ++ runS 108 3 ++ runS 100 7 ++ runS 108 1 ++ runS 100 7 ++ runS 97 14 ++ runS 100 2] else []
def FormPost (f : Nat) (w : World) (e : Ending) (w' : World) : Prop :=
  (f = 0 → e = .returned (.slice none 0 0)) ∧ (f ≠ 0 → ∃ g c, e = .returned (.slice (some ⟨g, 0, none⟩) (fmL f).length c) ∧ TextsAt w' (some ⟨g, 0, none⟩) (fmL f)) ∧ Below w.heap.size w w'
theorem texts_new (w : World) (ts : List ByteArray) : TextsAt (w.alloc (.cells (ts.map Value.string).toArray 9)) (some ⟨w.heap.size, 0, none⟩) ts := by
  refine ⟨by simp, .inr ⟨_, 0, rfl, fun j u hu => ?_⟩⟩
  have h := heap_alloc_new w (.cells (ts.map Value.string).toArray 9)
  rw [Nat.zero_add]
  unfold World.cell?
  rw [h]
  simpa using hu
set_option maxRecDepth 100000 in
set_option maxHeartbeats 4000000 in
theorem oform_1 (W : World) : Calls Tryz.prog 103 #[.int .i64 3, .int .i64 30] W (FormPost 1 W) := by
  have HB := Lib.hid (Below.refl W.heap.size W)
  go_enter Tryz.func103, Tryz.ntmps103
  go_wp2_with ((go_at_call 128; refine (orun _ _ _ (by decide) (by decide)).mono ?_; rintro e w' ⟨rfl, hb⟩; have HB := Lib.hid (HB.out.trans (hb.mono HB.out.size)); clear hb))
  go_ret
  refine ⟨fun h => absurd h (by decide), fun _ => ⟨_, _, rfl, texts_new _ (fmL 1)⟩, HB.out.alloc HB.out.size _⟩
set_option maxRecDepth 100000 in
set_option maxHeartbeats 4000000 in
theorem oform_2 (W : World) : Calls Tryz.prog 103 #[.int .i64 2, .int .i64 36] W (FormPost 2 W) := by
  have HB := Lib.hid (Below.refl W.heap.size W)
  go_enter Tryz.func103, Tryz.ntmps103
  go_wp2_with ((go_at_call 128; refine (orun _ _ _ (by decide) (by decide)).mono ?_; rintro e w' ⟨rfl, hb⟩; have HB := Lib.hid (HB.out.trans (hb.mono HB.out.size)); clear hb))
  go_ret
  refine ⟨fun h => absurd h (by decide), fun _ => ⟨_, _, rfl, texts_new _ (fmL 2)⟩, HB.out.alloc HB.out.size _⟩
set_option maxRecDepth 100000 in
set_option maxHeartbeats 4000000 in
theorem oform_3 (W : World) : Calls Tryz.prog 103 #[.int .i64 2, .int .i64 44] W (FormPost 3 W) := by
  have HB := Lib.hid (Below.refl W.heap.size W)
  go_enter Tryz.func103, Tryz.ntmps103
  go_wp2_with ((go_at_call 128; refine (orun _ _ _ (by decide) (by decide)).mono ?_; rintro e w' ⟨rfl, hb⟩; have HB := Lib.hid (HB.out.trans (hb.mono HB.out.size)); clear hb))
  go_ret
  refine ⟨fun h => absurd h (by decide), fun _ => ⟨_, _, rfl, texts_new _ (fmL 3)⟩, HB.out.alloc HB.out.size _⟩
set_option maxRecDepth 100000 in
set_option maxHeartbeats 4000000 in
theorem oform_0 (h w : Nat) (W : World) (hf : fm h w = 0) :
    Calls Tryz.prog 103 #[.int .i64 h, .int .i64 w] W (FormPost 0 W) := by
  have g1 : ¬ (h = 3 ∧ w = 30) := fun g => by unfold fm at hf; rw [if_pos g] at hf; cases hf
  have g2 : ¬ (h = 2 ∧ w = 36) := fun g => by unfold fm at hf; rw [if_neg g1, if_pos g] at hf; cases hf
  have g3 : ¬ (h = 2 ∧ w = 44) := fun g => by unfold fm at hf; rw [if_neg g1, if_neg g2, if_pos g] at hf; cases hf
  clear hf
  by_cases c3 : h = 3
  · subst c3
    have d1 : ¬ ((w : Int) = 30) := by omega
    clear g1 g2 g3
    go_enter Tryz.func103, Tryz.ntmps103
    go_wp2_with fail
    go_ret
    exact ⟨fun _ => rfl, fun h => absurd rfl h, Below.refl _ _⟩
  · have d0 : ¬ ((h : Int) = 3) := by omega
    by_cases c2 : h = 2
    · subst c2
      have d1 : ¬ ((w : Int) = 36) := by omega
      have d2 : ¬ ((w : Int) = 44) := by omega
      clear g1 g2 g3 c3
      go_enter Tryz.func103, Tryz.ntmps103
      go_wp2_with fail
      go_ret
      exact ⟨fun _ => rfl, fun h => absurd rfl h, Below.refl _ _⟩
    · have d1 : ¬ ((h : Int) = 2) := by omega
      clear g1 g2 g3 c3 c2
      go_enter Tryz.func103, Tryz.ntmps103
      go_wp2_with fail
      go_ret
      exact ⟨fun _ => rfl, fun h => absurd rfl h, Below.refl _ _⟩
theorem oform (h w : Nat) (W : World) :
    Calls Tryz.prog 103 #[.int .i64 h, .int .i64 w] W (FormPost (fm h w) W) := by
  by_cases c1 : h = 3 ∧ w = 30
  · obtain ⟨rfl, rfl⟩ := c1; exact oform_1 W
  · by_cases c2 : h = 2 ∧ w = 36
    · obtain ⟨rfl, rfl⟩ := c2; exact oform_2 W
    · by_cases c3 : h = 2 ∧ w = 44
      · obtain ⟨rfl, rfl⟩ := c3; exact oform_3 W
      · have hf : fm h w = 0 := by unfold fm; rw [if_neg c1, if_neg c2, if_neg c3]
        have := oform_0 h w W hf
        rwa [← hf] at this
end Go.Proofs.YtafbhadfeemppaaGreatDoor

namespace Go.Proofs.YtafbhadfeemppaaGreatDoor
open Go.RowKit

/-- A slice of lengths. -/
def NumsAt (w : World) (A : Option Addr) (ns : List Nat) : Prop := Src w 1 A ns.length (ns.map fun n : Nat => Value.int .i64 (n : Int))
theorem NumsAt.cell {w : World} {A : Option Addr} {ns : List Nat} (h : NumsAt w A ns) (h0 : ns ≠ []) : ∃ b off, A = some ⟨b, off, none⟩ ∧ ∀ i (hi : i < ns.length), w.cell? ⟨b, off + i, none⟩ = some (.int .i64 (ns[i] : Int)) := by
  rcases h.2 with h1 | ⟨b, off, e, hc⟩
  · exact absurd (List.eq_nil_of_length_eq_zero h1) h0
  · exact ⟨b, off, e, fun i hi => hc i _ (by rw [List.getElem?_map, List.getElem?_eq_getElem hi]; rfl)⟩
theorem NumsAt.later {w w' : World} {A : Option Addr} {ns : List Nat} (h : NumsAt w A ns) (hb : Below w.heap.size w w') : NumsAt w' A ns := Src.later h hb
/-- The format of lines with these lengths. -/
def fmN (ns : List Nat) : Nat := if ns.all (fun n => decide (n = ns.headD 0)) then fm ns.length (ns.headD 0) else 0
theorem fmN_no {ns : List Nat} {i : Nat} (hi : i < ns.length) (h : ns[i] ≠ ns.headD 0) : fmN ns = 0 := by
  unfold fmN
  rw [if_neg]
  intro ha
  exact h (of_decide_eq_true (List.all_eq_true.1 ha _ (List.getElem_mem hi)))
theorem fmN_yes {ns : List Nat} (h : ∀ i (hi : i < ns.length), ns[i] = ns.headD 0) : fmN ns = fm ns.length (ns.headD 0) := by
  unfold fmN
  rw [if_pos]
  refine List.all_eq_true.2 fun x hx => ?_
  obtain ⟨i, hi, rfl⟩ := List.getElem_of_mem hx
  exact decide_eq_true (h i hi)
theorem headD_get {ns : List Nat} (h : 0 < ns.length) : ns.headD 0 = ns[0] := by
  cases ns with
  | nil => simp at h
  | cons a r => rfl
theorem formPost_0 {f : Nat} {w : World} {e : Ending} {w' : World} (h : FormPost 0 w e w') (hf : f = 0) : FormPost f w e w' := by rw [hf]; exact h
set_option maxHeartbeats 1000000 in
theorem oforms (ns : List Nat) (A : Option Addr) (c : Nat) (w : World) (h : NumsAt w A ns) (hn : ns.length ≤ 140737488355328) (hm : ∀ n ∈ ns, n ≤ 140737488355328) :
    Calls Tryz.prog 60 #[.slice A ns.length c] w (FormPost (fmN ns) w) := by
  by_cases h0 : ns = []
  · subst h0
    go_enter Tryz.func60, Tryz.ntmps60
    go_wp2_with fail
    go_ret
    exact ⟨fun _ => rfl, fun h => absurd (by rfl) h, Below.refl _ _⟩
  · have hp : 0 < ns.length := List.length_pos_iff.2 h0
    obtain ⟨b, off, rfl, hc⟩ := h.cell h0
    have HC := Lib.hid hc
    have c0 := hc 0 hp
    rw [Nat.add_zero] at c0
    obtain ⟨m, hmm⟩ : ∃ m, ns[0]'hp = m := ⟨_, rfl⟩
    rw [hmm] at c0
    have HM := Lib.hid (show ns.headD 0 = m by rw [headD_get hp, hmm])
    have hmb : m ≤ 140737488355328 := by rw [← hmm]; exact hm _ (List.getElem_mem _)
    have HN := Lib.hid hm
    clear hc hmm hm h0 h
    go_enter Tryz.func60, Tryz.ntmps60
    go_wp2_with fail
    go_loop [10] (fun v => ∃ k : Nat, k ≤ ns.length ∧ v = .int .i64 k ∧ ∀ i (hi : i < ns.length), i < k → ns[i] = m) (fun v => ns.length - (intOf v).toNat)
    case atStart => exact ⟨0, Nat.zero_le _, rfl, fun i _ h => absurd h (by omega)⟩
    case round =>
      obtain ⟨k, hk, rfl, hall⟩ := hrel
      have HA := Lib.hid hall
      clear hall
      by_cases hlt : k < ns.length
      · have ck := HC.out k hlt
        obtain ⟨q, hq⟩ : ∃ q, ns[k]'hlt = q := ⟨_, rfl⟩
        rw [hq] at ck
        have HQ := Lib.hid hq; have HLT := Lib.hid hlt
        clear hq
        by_cases e : q = m
        · subst e
          go_wp2_with fail
          go_round
          case rel =>
            refine ⟨k + 1, HLT.out, by go_num, fun i hi h => ?_⟩
            rcases Nat.lt_or_ge i k with g | g
            · exact HA.out i hi g
            · obtain rfl : i = k := by omega
              exact HQ.out
          case measure => have := HLT.out; simp [intOf]; omega
        · have e1 : ¬ ((q : Int) = (m : Int)) := by omega
          have HE := Lib.hid (show fmN ns = 0 from fmN_no HLT.out (by rw [HQ.out, HM.out]; exact e))
          clear e
          go_wp2_with fail
          go_ret
          exact formPost_0 ⟨fun _ => rfl, fun h => absurd rfl h, Below.refl _ _⟩ HE.out
      · obtain rfl : k = ns.length := by omega
        have HE := Lib.hid (show fmN ns = fm ns.length m from (fmN_yes fun i hi => by rw [HM.out]; exact HA.out i hi hi).trans (by rw [HM.out]))
        go_wp2_with fail
        refine (oform ns.length m w).mono ?_; rintro e w1 hp1
        rw [← HE.out] at hp1
        by_cases hz : fmN ns = 0
        · rw [hp1.1 hz]
          have HP := Lib.hid hp1; have HZ := Lib.hid hz
          clear hp1 hz
          go_wp2_with fail
          go_ret
          exact ⟨fun _ => rfl, fun h => absurd HZ.out h, HP.out.2.2⟩
        · obtain ⟨g, cc, rfl, ht⟩ := hp1.2.1 hz
          have HP := Lib.hid (And.intro hp1.2.2 ht); have HZ := Lib.hid hz
          clear hp1 hz ht
          go_wp2_with fail
          go_ret
          exact ⟨fun h => absurd h HZ.out, fun _ => ⟨g, cc, rfl, HP.out.2⟩, HP.out.1⟩

/-- A slice of slices of strings. -/
def GridAt (w : World) (A : Option Addr) (G : List (List ByteArray)) : Prop :=
  G.length = 0 ∨ ∃ b off, A = some ⟨b, off, none⟩ ∧ ∀ i (h : i < G.length), ∃ Ai ci, w.cell? ⟨b, off + i, none⟩ = some (.slice Ai G[i].length ci) ∧ TextsAt w Ai G[i]
theorem GridAt.later {w w' : World} {A : Option Addr} {G : List (List ByteArray)} (h : GridAt w A G) (hb : Below w.heap.size w w') : GridAt w' A G := by
  rcases h with h | ⟨b, off, e, hc⟩
  · exact .inl h
  · refine .inr ⟨b, off, e, fun i hi => ?_⟩
    obtain ⟨Ai, ci, h1, h2⟩ := hc i hi
    exact ⟨Ai, ci, cell_later hb h1, h2.later hb⟩
/-- The different characters of each place, row after row. -/
def flatG (G : List (List ByteArray)) : List (List UInt8) := G.flatten.map fun s => Rd.srt s.data.toList
theorem flatG_take {G : List (List ByteArray)} {i : Nat} (h : i < G.length) : flatG (G.take (i + 1)) = flatG (G.take i) ++ G[i].map fun s => Rd.srt s.data.toList := by
  unfold flatG
  rw [List.take_succ_eq_append_getElem h, List.flatten_append, List.map_append]
  simp
/-- Is a reading complete? -/
def okG (G : List (List ByteArray)) : Bool := G.all (fun r => r.all fun s => decide (s.size ≠ 0)) && decide (fmN (G.map List.length) ≠ 0)
/-- What choices has done: the rows of characters, the lengths. -/
def CH (w : World) (v2 v5 : Value) (rows : List Ln) (ns : List Nat) (wr : World) : Prop :=
  LinesAt wr w.heap.size v2 rows ∧ wr.ownsRow w.heap.size 3 1 v5 ns.length (ns.map fun n : Nat => Value.int .i64 (n : Int)) ∧ (∀ r ∈ rows, v5.ownBlock ≠ some r.1) ∧ Below w.heap.size w wr
theorem CH.later {w : World} {v2 v5 : Value} {rows : List Ln} {ns : List Nat} {wr w' : World} (h : CH w v2 v5 rows ns wr) (hb : Below wr.heap.size wr w') : CH w v2 v5 rows ns w' :=
  ⟨h.1.later hb, ownsRow_later h.2.1 hb, h.2.2.1, h.2.2.2.trans (hb.mono h.2.2.2.size)⟩
theorem CH.drewN {w : World} {v2 v5 : Value} {rows : List Ln} {ns : List Nat} {wr : World} (h : CH w v2 v5 rows ns wr) (n : Nat) : CH w v2 v5 rows ns (wr.drewN n) := h.later (below_drewN (Below.refl _ _) n)
theorem own_ne_type {w : World} {b1 b2 e1 e2 s1 s2 n1 n2 : Nat} {v1 v2 : Value} {x1 x2 : List Value} (h1 : w.ownsRow b1 e1 s1 v1 n1 x1) (h2 : w.ownsRow b2 e2 s2 v2 n2 x2) (he : e1 ≠ e2) : v1.ownBlock = none ∨ v1.ownBlock ≠ v2.ownBlock := by
  rcases h1.2 with ⟨rfl, _⟩ | ⟨g1, c1, u1, rfl, _, g1', _⟩
  · exact .inl rfl
  · rcases h2.2 with ⟨rfl, _⟩ | ⟨g2, c2, u2, rfl, _, g2', _⟩
    · right; intro e; cases e
    · right; intro e
      injection e with e
      change g1 = g2 at e
      subst e
      rw [g1'] at g2'
      injection g2' with g2'
      injection g2' with _ g2'
      exact he g2'
theorem bytes_grown {w w' : World} {k : Nat} {l : List UInt8} {row : Option Nat} (h : BytesAt w k l) (hg : w.grownBy w' row) (hr : row ≠ some k) (hk : k < w.heap.size) : BytesAt w' k l := h.grown hg hr hk
/-- Another length. -/
theorem CH.len {w : World} {v2 v5 v' : Value} {rows : List Ln} {ns : List Nat} {wr w3 w4 : World} {m : Nat} (h : CH w v2 v5 rows ns wr) (hb3 : Below wr.heap.size wr w3)
    (hown : w4.ownsRow w.heap.size 3 1 v' (ns.length + 1) ((ns.map fun n : Nat => Value.int .i64 (n : Int)) ++ [.int .i64 (m : Int)])) (hgrow : w3.grownBy w4 v5.ownBlock)
    (hloc : v'.ownBlock = v5.ownBlock ∨ v'.ownBlock = some w3.heap.size) : CH w v2 v' rows (ns ++ [m]) w4 := by
  have h3 := h.later hb3
  obtain ⟨⟨l1, l2, l3⟩, o1, d1, b1⟩ := h3
  have hlt := o1.lt
  refine ⟨⟨l1.kept hgrow (own_ne_type l1 o1 (by decide)), l2, fun r hr => ?_⟩, ?_, fun r hr e => ?_, ?_⟩
  · obtain ⟨q1, q2, q3, q4, q5⟩ := l3 r hr
    exact ⟨q1, Nat.lt_of_lt_of_le q2 hgrow.size, q3, q4, bytes_grown q5 hgrow (d1 r hr) q2⟩
  · rw [List.length_append, List.map_append]; exact hown
  · rcases hloc with hl | hl
    · exact d1 r hr (hl.symm.trans e)
    · have := (l3 r hr).2.1
      rw [hl] at e
      injection e with e
      omega
  · exact b1.grown hgrow b1.size (fun j hj => (hlt j hj).1)
/-- Another place. -/
theorem CH.add {w : World} {v2 v5 v' : Value} {rows : List Ln} {ns : List Nat} {wr w3 w4 : World} {k cp : Nat} {l : List UInt8} (h : CH w v2 v5 rows ns wr) (hb3 : Below wr.heap.size wr w3)
    (hk : k = wr.heap.size) (hk3 : k < w3.heap.size) (hby : BytesAt w3 k l) (hcp : l.length ≤ cp)
    (hown : w4.ownsRow w.heap.size 59 1 v' (rows.length + 1) (rows.map Ln.val ++ [.slice (some ⟨k, 0, none⟩) l.length cp])) (hgrow : w3.grownBy w4 v2.ownBlock)
    (hloc : v'.ownBlock = v2.ownBlock ∨ v'.ownBlock = some w3.heap.size) : CH w v' v5 (rows ++ [(k, cp, l)]) ns w4 := by
  have hb0 := h.2.2.2
  have hlt0 := h.1.1.lt
  have hlt5 := h.2.1.lt
  have hrow0 := h.1.2.2
  have h3 := h.later hb3
  obtain ⟨⟨l1, l2, l3⟩, o1, d1, b1⟩ := h3
  have hlt := l1.lt
  have hkn : ∀ j, v2.ownBlock = some j → j ≠ k := fun j hj => by have := (hlt0 j hj).2; omega
  refine ⟨⟨?_, ?_, fun r hr => ?_⟩, o1.kept hgrow (own_ne_type o1 l1 (by decide)), fun r hr e => ?_, ?_⟩
  · rw [List.length_append, List.map_append]; exact hown
  · rw [List.map_append]
    refine List.nodup_append.2 ⟨l2, by simp, fun a ha b hbm => ?_⟩
    simp only [List.map_cons, List.map_nil, List.mem_singleton] at hbm
    obtain ⟨r, hr, rfl⟩ := List.mem_map.1 ha
    have := (hrow0 r hr).2.1
    omega
  · rcases List.mem_append.1 hr with hr | hr
    · obtain ⟨q1, q2, q3, q4, q5⟩ := l3 r hr
      refine ⟨q1, Nat.lt_of_lt_of_le q2 hgrow.size, fun e => ?_, q4, bytes_grown q5 hgrow q3 q2⟩
      rcases hloc with hl | hl
      · exact q3 (hl.symm.trans e)
      · rw [hl] at e; injection e with e; omega
    · rw [List.mem_singleton] at hr
      subst hr
      refine ⟨by show w.heap.size ≤ k; rw [hk]; exact hb0.size, by show k < _; exact Nat.lt_of_lt_of_le hk3 hgrow.size, fun e => ?_, hcp, bytes_grown hby hgrow (fun e => hkn _ e rfl) hk3⟩
      change v'.ownBlock = some k at e
      rcases hloc with hl | hl
      · exact hkn k (hl.symm.trans e) rfl
      · rw [hl] at e; injection e with e; omega
  · rcases List.mem_append.1 hr with hr | hr
    · exact d1 r hr e
    · rw [List.mem_singleton] at hr
      subst hr
      have := (hlt5 k e).2
      omega
  · exact b1.grown hgrow b1.size (fun j hj => (hlt j hj).1)

def ChPost (G : List (List ByteArray)) (w : World) (e : Ending) (w' : World) : Prop :=
  (okG G = false → e = .returned (.tuple #[.slice none 0 0, .int .i64 0, .bool false])) ∧
  (okG G = true → ∃ v rows, e = .returned (.tuple #[v, .int .i64 ((G.headD []).length : Int), .bool true]) ∧ LinesAt w' w.heap.size v rows ∧ Ln.txt rows = flatG G) ∧ Below w.heap.size w w'
theorem chPost_no {G : List (List ByteArray)} {w w' : World} (h : okG G = false) (hb : Below w.heap.size w w') : ChPost G w (.returned (.tuple #[.slice none 0 0, .int .i64 0, .bool false])) w' :=
  ⟨fun _ => rfl, fun h' => absurd (h.symm.trans h') (by decide), hb⟩
theorem okG_empty {G : List (List ByteArray)} {i j : Nat} (hi : i < G.length) (hj : j < G[i].length) (h : G[i][j].size = 0) : okG G = false := by
  rw [Bool.eq_false_iff]
  intro ha
  unfold okG at ha
  rw [Bool.and_eq_true] at ha
  have := List.all_eq_true.1 (List.all_eq_true.1 ha.1 _ (List.getElem_mem hi)) _ (List.getElem_mem hj)
  exact of_decide_eq_true this h
theorem okG_form {G : List (List ByteArray)} (h : fmN (G.map List.length) = 0) : okG G = false := by
  unfold okG; rw [h]; simp
theorem okG_yes {G : List (List ByteArray)} (h : ∀ i (hi : i < G.length), ∀ s ∈ G[i], s.size ≠ 0) (hf : fmN (G.map List.length) ≠ 0) : okG G = true := by
  unfold okG
  rw [Bool.and_eq_true]
  refine ⟨List.all_eq_true.2 fun r hr => List.all_eq_true.2 fun s hs => ?_, decide_eq_true hf⟩
  obtain ⟨i, hi, rfl⟩ := List.getElem_of_mem hr
  exact decide_eq_true (h i hi s hs)
theorem own_nums {w : World} {base : Nat} {v : Value} {ns : List Nat} (h : w.ownsRow base 3 1 v ns.length (ns.map fun n : Nat => Value.int .i64 (n : Int))) : ∃ A c, v = .slice A ns.length c ∧ NumsAt w A ns := by
  rcases h.2 with ⟨rfl, h0⟩ | ⟨g, cap, cur, rfl, h1, h2, h3, h4, h5, h6⟩
  · have : ns = [] := List.eq_nil_of_length_eq_zero h0
    subst this
    exact ⟨none, 0, rfl, by simp, .inl rfl⟩
  · refine ⟨_, cap, rfl, by simp, .inr ⟨g, 0, rfl, fun j u hu => ?_⟩⟩
    have hj : j < ns.length := by have := (List.getElem?_eq_some_iff.1 hu).1; rwa [List.length_map] at this
    rw [Nat.zero_add]
    exact (World.ownsRow.cellAt h j (by omega)).trans hu
theorem Tryz.infoInt : (Tryz.prog.info? 3).map (fun i => (i.zero, i.size, i.bytes)) = some (some (.int .i64 0), 1, 8) := by kernel_rfl
theorem osort_s (s : ByteArray) (b c : Nat) (w : World) (h : BytesAt w b s.data.toList) (hb : b < w.heap.size) (hl : s.size ≤ 140737488351232) :
    Calls Tryz.prog 62 #[.slice (some ⟨b, 0, none⟩) s.size c] w fun e w' => e = .returned (.tuple #[]) ∧ BytesAt w' b (s.data.toList.mergeSort fun x y => decide (x ≤ y)) ∧ w.grownBy w' (some b) := by
  have := osort s.data.toList b c w h hb (by rw [Opt.size_len]; omega)
  rwa [Opt.size_len] at this
theorem ocompact_s (s : ByteArray) (b c : Nat) (w : World) (h : BytesAt w b (s.data.toList.mergeSort fun x y => decide (x ≤ y))) (hc : s.size ≤ c) (hl : s.size ≤ 140737488351232) :
    Calls Tryz.prog 76 #[.slice (some ⟨b, 0, none⟩) s.size c] w fun e w' => e = .returned (.slice (some ⟨b, 0, none⟩) (Rd.srt s.data.toList).length c) ∧ BytesAt w' b (Rd.srt s.data.toList) ∧ w.grownBy w' (some b) := by
  have e : (s.data.toList.mergeSort fun x y => decide (x ≤ y)).length = s.size := by rw [List.length_mergeSort, Opt.size_len]
  have := ocompact _ b c w h (by rw [e]; omega) (by rw [e]; exact hc)
  rwa [e, compact_sort] at this
theorem txt_len {rows : List Ln} {L : List (List UInt8)} (h : Ln.txt rows = L) : rows.length = L.length := by rw [← h]; unfold Ln.txt; rw [List.length_map]
theorem flat_bound {G : List (List ByteArray)} {k : Nat} (hk : k < G.length) : (flatG (G.take k)).length + G[k].length ≤ G.flatten.length := by
  have h1 := congrArg List.length (flatG_take hk)
  rw [List.length_append, List.length_map] at h1
  rw [← h1]
  unfold flatG
  rw [List.length_map]
  have : G.flatten = (G.take (k + 1)).flatten ++ (G.drop (k + 1)).flatten := by rw [← List.flatten_append, List.take_append_drop]
  rw [this, List.length_append]; omega
set_option maxRecDepth 100000 in
set_option maxHeartbeats 4000000 in
theorem ochoices (G : List (List ByteArray)) (A : Option Addr) (c : Nat) (w : World) (hG : GridAt w A G) (hn : G.length ≤ 4194304) (hN : G.flatten.length ≤ 4194304) (hs : ∀ r ∈ G, ∀ s ∈ r, s.size ≤ 140737488351232) :
    Calls Tryz.prog 39 #[.slice A G.length c] w (ChPost G w) := by
  have HG := Lib.hid hG; have HS := Lib.hid hs; have HN := Lib.hid hN
  clear hG hs hN
  go_enter Tryz.func39, Tryz.ntmps39
  go_wp2_with fail
  go_loopw [2, 5, 13] (fun v2 v5 v13 wr => ∃ (k : Nat) (rows : List Ln), k ≤ G.length ∧ v13 = .int .i64 k ∧ CH w v2 v5 rows ((G.take k).map List.length) wr ∧ Ln.txt rows = flatG (G.take k) ∧ ∀ i (hi : i < G.length), i < k → ∀ s ∈ G[i], s.size ≠ 0)
    (fun _ _ v13 _ => G.length - (intOf v13).toNat)
  case atStart => exact ⟨0, [], Nat.zero_le _, rfl, ⟨⟨World.ownsRow_nil _ _ _ _, List.nodup_nil, fun r hr => (by cases hr)⟩, World.ownsRow_nil _ _ _ _, fun r hr => (by cases hr), Below.refl _ _⟩, rfl, fun i _ h => absurd h (by omega)⟩
  case round =>
    obtain ⟨k, rows, hk, rfl, hch, htx, hne⟩ := hrel
    obtain ⟨ns, hns⟩ : ∃ ns, (G.take k).map List.length = ns := ⟨_, rfl⟩
    rw [hns] at hch
    have HK := Lib.hid (show ns.length = k by rw [← hns, List.length_map, List.length_take]; omega)
    have HNS := Lib.hid hns
    clear hns
    have HNE := Lib.hid hne; have HTX := Lib.hid htx; have HCH := Lib.hid hch
    clear hne htx hch
    by_cases hlt : k < G.length
    · obtain ⟨b, off, rfl, hcell⟩ : ∃ b off, A = some ⟨b, off, none⟩ ∧ ∀ i (h : i < G.length), ∃ Ai ci, w.cell? ⟨b, off + i, none⟩ = some (.slice Ai G[i].length ci) ∧ TextsAt w Ai G[i] := by
        rcases HG.out with h | h
        · omega
        · exact h
      obtain ⟨Ai, ci, e0, ht⟩ := hcell k hlt
      have e1 := cell_later HCH.out.2.2.2 e0
      have HFB := Lib.hid (flat_bound hlt)
      have HSR := Lib.hid (HS.out _ (List.getElem_mem hlt))
      obtain ⟨R, hR⟩ : ∃ R, G[k]'hlt = R := ⟨_, rfl⟩
      rw [hR] at e1 ht HFB HSR
      have HR := Lib.hid hR; have HT := Lib.hid ht; have HLT := Lib.hid hlt
      have hrl : R.length ≤ 4194304 := by have := HFB.out; have := HN.out; omega
      obtain ⟨i0, hi0, hz0, hz1, hz2⟩ := info_parts Tryz.infoInt
      have HOWN := Lib.hid (HCH.out.2.1.alloc (.cells #[.int .i64 (R.length : Int)] 3))
      clear hcell e0 hR ht
      go_wp2_with (at_builtin; refine wpList_append_own_at _ rfl _ _ 25 rfl w.heap.size 3 i0 (.int .i64 0) 1 8 Tryz.underlying25 hi0 hz0 hz1 hz2 rfl (by decide) _ _ _ rfl HOWN.out ⟨wr.heap.size, 0, none⟩ 1 1 [.int .i64 (R.length : Int)] rfl rfl ?c1 ?c2 ?c3 ?c4 ?c5 ?_)
      case c1 => exact cell_one_new _ _ _
      case c2 => intro u hu; simp at hu; subst hu; rfl
      case c3 => have := HK.out; unfold maxLen; omega
      case c4 => have := HK.out; omega
      case c5 => have := HCH.out.2.2.2.size; simp; omega
      · intro v5' w4 hown' hgrow _ hloc
        have HC1 := Lib.hid (HCH.out.len (m := R.length) (below_alloc1 wr _) hown' hgrow (by rw [size_alloc1]; exact hloc))
        have HB1 := Lib.hid (show rows.length = (flatG (G.take k)).length from txt_len HTX.out)
        clear hown' hgrow hloc hi0 hz0 hz1 hz2
        go_wp2_with fail
        obtain ⟨wo, rfl⟩ : ∃ wo : World, wo = wr := ⟨_, rfl⟩
        go_loopw [2, 24] (fun v2 v24 wr => ∃ (j : Nat) (rows2 : List Ln), j ≤ R.length ∧ v24 = .int .i64 j ∧ CH w v2 v5' rows2 (ns ++ [R.length]) wr ∧ Ln.txt rows2 = flatG (G.take k) ++ (R.take j).map (fun s => Rd.srt s.data.toList) ∧ ∀ i (hi : i < R.length), i < j → R[i].size ≠ 0)
          (fun _ v24 _ => R.length - (intOf v24).toNat)
        case atStart => exact ⟨0, rows, Nat.zero_le _, rfl, HC1.out, by rw [HTX.out]; simp, fun i _ h => absurd h (by omega)⟩
        case round =>
          obtain ⟨j, rows2, hj, rfl, hch2, htx2, hne2⟩ := hrel
          have HNE2 := Lib.hid hne2; have HTX2 := Lib.hid htx2; have HCH2 := Lib.hid hch2
          clear hne2 htx2 hch2
          by_cases hjlt : j < R.length
          · obtain ⟨s, hs0⟩ : ∃ s, R[j]'hjlt = s := ⟨_, rfl⟩
            obtain ⟨b2, off2, rfl, e2⟩ := (HT.out.later HCH2.out.2.2.2).cell j hjlt
            have hss := HSR.out _ (List.getElem_mem hjlt)
            rw [hs0] at e2 hss
            have HSJ := Lib.hid hs0; have HJ := Lib.hid hjlt
            clear hs0
            by_cases hz : s.size = 0
            · obtain ⟨z1, z2, z3⟩ := (empty_is2 s).1 hz
              have HO := Lib.hid (show okG G = false from by
                have hRk : G[k]'HLT.out = R := HR.out
                have hj2 : j < (G[k]'HLT.out).length := by rw [hRk]; exact HJ.out
                refine okG_empty HLT.out hj2 ?_
                have : (G[k]'HLT.out)[j]'hj2 = s := by simp only [hRk]; exact HSJ.out
                rw [this]; exact hz)
              have HBE := Lib.hid HCH2.out.2.2.2
              clear hz
              go_wp2_with fail
              go_ret3
              exact chPost_no HO.out HBE.out
            · obtain ⟨z1, z2, z3⟩ := (empty_is2 s).2 hz
              have HZ := Lib.hid hz
              obtain ⟨W0, cap, hcv, hbw, hzw, hbyw, hcapw⟩ := conv_line wr s
              have HBW := Lib.hid hbw; have HZW := Lib.hid hzw; have HBY := Lib.hid hbyw; have HCW := Lib.hid hcapw
              clear hbw hzw hbyw hcapw hz
              go_wp2_with fail
              refine (osort_s s wr.heap.size cap W0 HBY.out (by have := HZW.out; omega) hss).mono ?_; rintro e W1 ⟨rfl, hs1, hg1⟩
              have HS1 := Lib.hid hs1; have HG1 := Lib.hid hg1
              clear hs1 hg1 hcv
              go_wp2_with fail
              refine (ocompact_s s wr.heap.size cap W1 HS1.out HCW.out hss).mono ?_; rintro e W2 ⟨rfl, hs2, hg2⟩
              have HBB := Lib.hid (show Below wr.heap.size wr W2 from (HBW.out.grown HG1.out HBW.out.size (fun k e => by cases e; exact Nat.le_refl _)).grown hg2 (Nat.le_trans HBW.out.size HG1.out.size) (fun k e => by cases e; exact Nat.le_refl _))
              have HKL := Lib.hid (show wr.heap.size < W2.heap.size by have := HZW.out; have := HG1.out.size; have := hg2.size; omega)
              have HS2 := Lib.hid hs2
              obtain ⟨L, hL⟩ : ∃ L, Rd.srt s.data.toList = L := ⟨_, rfl⟩
              have hLc : L.length ≤ cap := by rw [← hL]; have h1 := Rd.srt_le s.data.toList; rw [Opt.size_len] at h1; exact Nat.le_trans h1 HCW.out
              rw [hL] at HS2 ⊢
              have HL := Lib.hid hL; have HLC := Lib.hid hLc
              obtain ⟨i0, hi0, hz0, hz1, hz2⟩ := info_parts Tryz.infoB
              have HR2 := Lib.hid (txt_len HTX2.out)
              have HOWN2 := Lib.hid ((HCH2.out.later HBB.out).1.1.alloc (.cells #[.slice (some ⟨wr.heap.size, 0, none⟩) L.length cap] 59))
              clear hs2 hg2 hL hLc
              go_wp2_with (at_builtin; refine wpList_append_own_at _ rfl _ _ 65 rfl w.heap.size 59 i0 (.slice none 0 0) 1 24 Tryz.underlying65 hi0 hz0 hz1 hz2 rfl (by decide) _ _ _ rfl HOWN2.out ⟨W2.heap.size, 0, none⟩ 1 1 [.slice (some ⟨wr.heap.size, 0, none⟩) L.length cap] rfl rfl ?c1 ?c2 ?c3 ?c4 ?c5 ?_)
              case c1 => exact cell_one_new _ _ _
              case c2 => intro u hu; simp at hu; subst hu; rfl
              case c3 => have h1 := HR2.out; rw [List.length_append, List.length_map, List.length_take] at h1; have := HFB.out; have := HN.out; have := HJ.out; unfold maxLen; omega
              case c4 => have h1 := HR2.out; rw [List.length_append, List.length_map, List.length_take] at h1; have := HFB.out; have := HN.out; have := HJ.out; omega
              case c5 => have := HCH2.out.2.2.2.size; have := HBB.out.size; simp; omega
              · intro v2' w5 hown' hgrow _ hloc
                have hbt := below_alloc1 W2 (.cells #[.slice (some ⟨wr.heap.size, 0, none⟩) L.length cap] 59)
                have HCN := Lib.hid (HCH2.out.add (k := wr.heap.size) (cp := cap) (l := L) (HBB.out.trans (hbt.mono HBB.out.size)) rfl (by rw [size_alloc1]; have := HKL.out; omega) (HS2.out.later hbt HKL.out) HLC.out hown' hgrow (by rw [size_alloc1]; exact hloc))
                clear hown' hgrow hloc hi0 hz0 hz1 hz2 hbt
                go_wp2_with fail
                go_roundw
                case rel =>
                  refine ⟨j + 1, _, HJ.out, by go_num, HCN.out, ?_, fun i hi h => ?_⟩
                  · unfold Ln.txt
                    rw [List.map_append]
                    show Ln.txt rows2 ++ [L] = _
                    rw [HTX2.out, List.append_assoc]
                    congr 1
                    rw [List.take_succ_eq_append_getElem HJ.out, List.map_append, List.map_cons, HSJ.out, HL.out]; rfl
                  · rcases Nat.lt_or_ge i j with g | g
                    · exact HNE2.out i hi g
                    · obtain rfl : i = j := by omega
                      rw [HSJ.out]; exact HZ.out
                case measure => have := HJ.out; simp [intOf]; omega
          · obtain rfl : j = R.length := by omega
            have HCO := Lib.hid (show CH w u2 v5' rows2 ((G.take (k + 1)).map List.length) wr from by
              have h := HCH2.out
              rw [List.take_succ_eq_append_getElem HLT.out, List.map_append, HR.out, HNS.out]; exact h)
            have HTO := Lib.hid (show Ln.txt rows2 = flatG (G.take (k + 1)) from by
              rw [HTX2.out, flatG_take HLT.out, HR.out, List.take_length])
            go_wp2_with fail
            go_roundw
            case rel =>
              refine ⟨k + 1, rows2, HLT.out, by go_num, HCO.out, HTO.out, fun i hi h => ?_⟩
              rcases Nat.lt_or_ge i k with g | g
              · exact HNE.out i hi g
              · obtain rfl : i = k := by omega
                intro s hs
                rw [HR.out] at hs
                obtain ⟨m, hm, rfl⟩ := List.getElem_of_mem hs
                exact HNE2.out m hm hm
            case measure => have := HLT.out; simp [intOf]; omega
    · obtain rfl : k = G.length := by omega
      have HNG := Lib.hid (show ns = G.map List.length from by have e := HNS.out; rw [List.take_length] at e; exact e.symm)
      have HT := Lib.hid (show Ln.txt rows = flatG G from by have h := HTX.out; rwa [List.take_length] at h)
      have HNN := Lib.hid (show ∀ i (hi : i < G.length), ∀ s ∈ G[i], s.size ≠ 0 from fun i hi => HNE.out i hi hi)
      obtain ⟨A5, c5, rfl, hn5⟩ := own_nums HCH.out.2.1
      have HN5 := Lib.hid hn5
      have HF := Lib.hid (oforms ns A5 c5 wr hn5 (by have := HK.out; omega) (fun n hn' => by
        rw [HNG.out] at hn'
        obtain ⟨r, hr, rfl⟩ := List.mem_map.1 hn'
        obtain ⟨i, hi, rfl⟩ := List.getElem_of_mem hr
        have := flat_bound hi
        have := HN.out
        omega))
      have hnl : ns.length ≤ 4194304 := by have := HK.out; omega
      clear hn5
      go_wp2_with fail
      refine HF.out.mono ?_; rintro e w1 hp1
      by_cases hz : fmN ns = 0
      · rw [hp1.1 hz]
        have HO := Lib.hid (show okG G = false from okG_form (by rw [← HNG.out]; exact hz))
        have HBE := Lib.hid (HCH.out.2.2.2.trans (hp1.2.2.mono HCH.out.2.2.2.size))
        have heq : Sem.run Tryz.prog (binOp .eql 29 (.slice none 0 0) (.slice none 0 0)) w1 = .ok (.bool true) w1 := by rfl
        clear hp1 hz
        go_wp2_with fail
        go_ret3
        exact chPost_no HO.out HBE.out
      · obtain ⟨g, cc, rfl, ht⟩ := hp1.2.1 hz
        have HO := Lib.hid (show okG G = true from okG_yes HNN.out (by rw [← HNG.out]; exact hz))
        have HC1 := Lib.hid (HCH.out.later hp1.2.2)
        have hne : ns ≠ [] := fun e => hz (by rw [e]; rfl)
        have hpos : 0 < ns.length := List.length_pos_iff.2 hne
        obtain ⟨b5, off5, rfl, hcell⟩ := (HN5.out.later hp1.2.2).cell hne
        have c0 := hcell 0 hpos
        rw [Nat.add_zero] at c0
        obtain ⟨m, hm⟩ : ∃ m, ns[0]'hpos = m := ⟨_, rfl⟩
        rw [hm] at c0
        have HM := Lib.hid (show ((G.headD []).length : Int) = m by
          rw [← hm]
          have h1 : ns = G.map List.length := HNG.out
          subst h1
          cases G with
          | nil => simp at hpos
          | cons a r => rfl)
        obtain ⟨FL, hFL⟩ : ∃ FL, (fmL (fmN ns)).length = FL := ⟨_, rfl⟩
        rw [hFL]
        have heq : Sem.run Tryz.prog (binOp .eql 29 (.slice (some ⟨g, 0, none⟩) FL cc) (.slice none 0 0)) w1 = .ok (.bool false) w1 := by rfl
        clear hp1 hz ht hcell hne hm hFL
        go_wp2_with fail
        go_quiet (fail)
        go_wp2_with fail
        go_ret3
        refine ⟨fun h => absurd (HO.out.symm.trans h) (by decide), fun _ => ⟨_, rows, by rw [HM.out]; rfl, (HC1.out.drewN _).1, HT.out⟩, (HC1.out.drewN _).2.2.2⟩
end Go.Proofs.YtafbhadfeemppaaGreatDoor
