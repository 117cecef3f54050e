/- Several texts in one: WebRr. -/
import Derived.Test.YtihbmgkbipeakaaGreatWebG28
import Derived.Test.YtihbmgkbipeakaaGreatWebG21
namespace Go.Proofs.YtihbmgkbipeakaaGreat
open Go.RowKit Go.ChangeShapes Go.WideShapes Go.Deep

theorem known_one (w : World) {G : T} {A : Option Addr} {c : Nat} (h : TermAt w (.agg #[.int .i64 G.kind, .string G.name, .slice A G.kids.length c]) G) : KnownAt (w.alloc (.cells #[.int .i64 G.kind, .string G.name, .slice A G.kids.length c] 29)) (some ⟨w.heap.size, 0, none⟩) 1 [G] := by
  have hb := below_alloc1 w (.cells #[.int .i64 G.kind, .string G.name, .slice A G.kids.length c] 29)
  have hn := heap_alloc_new w (.cells #[.int .i64 G.kind, .string G.name, .slice A G.kids.length c] 29)
  refine TermAt.mk 0 ⟨#[]⟩ _ 1 [G] (fun _ => (.int .i64 G.kind, .string G.name, .slice A G.kids.length c)) (by decide) (by decide) (Nat.le_refl _) (by decide) (.inr ⟨_, 0, rfl, fun i hi => ?_⟩) (fun i hi => ?_)
  · obtain rfl : i = 0 := by simp at hi; omega
    refine ⟨?_, ?_, ?_⟩ <;> (unfold World.cell?; rw [hn]; rfl)
  · obtain rfl : i = 0 := by simp at hi; omega
    exact h.later hb
theorem bulkAll_mem : ∀ {L : List T} {x : T}, x ∈ L → x.bulk ≤ T.bulkAll L := fun {L x} hx => by
  obtain ⟨i, hi, rfl⟩ := List.getElem_of_mem hx
  have := T.bulk_at L i hi
  omega
set_option maxRecDepth 100000 in
/-- A list of terms that comes in, opened. -/
theorem open_known {H : Type} {enc : TypeId × Value → H} {w : World} {b0 : Nat} {v : Value} {d : DataW H} {p : List MemPlace} {r : Reach}
    (hv : Value.okWide Tryz.prog w r b0 27 v) (h : DataW.Trod enc Tryz.prog w 0 (fun _ => true) true 27 v d p) :
    ∃ (A : Option Addr) (cap : Nat) (L : List T), v = .slice A L.length cap ∧ KnownAt w A cap L ∧ T.bulkAll L ≤ Rows.uptoBulk d := by
  obtain ⟨a0, len0, cap0, rfl⟩ := okWide_slice Tryz.underlying27 hv
  obtain ⟨fuel, hf⟩ := h
  rcases open_slice Tryz.underlying27 hf with ⟨e2, hy2⟩ | ⟨a, len, cap, m, n', D, Pl, e2, hb, hl, hm, hmm, hy2, hi⟩
  · simp [Value.cells] at e2
    obtain ⟨rfl, rfl, rfl⟩ := e2
    exact ⟨none, 0, [], rfl, TermAt.mk 0 ⟨#[]⟩ none 0 [] (fun _ => (undef, undef, undef)) (by decide) (by decide) (Nat.le_refl _) (Nat.zero_le _) (.inl rfl) (fun i h => by simp at h), Nat.zero_le _⟩
  · simp [Value.cells] at e2
    obtain ⟨rfl, rfl, rfl⟩ := e2
    simp only [if_true] at hmm
    subst hmm
    have hK : ∀ i, i < len0 → ∃ x : T × Value × Value × Value, TermAt w (.agg #[x.2.1, x.2.2.1, x.2.2.2]) x.1 ∧ x.1.bulk ≤ Rows.uptoBulk (D i) ∧
        w.cell? (a.add (i * 3)) = some x.2.1 ∧ w.cell? ((a.add (i * 3)).add 1) = some x.2.2.1 ∧ w.cell? ((a.add (i * 3)).add 2) = some x.2.2.2 := fun i h => by
      obtain ⟨cs', hc, ht⟩ := hi i (by omega)
      rw [cells24] at hc
      obtain ⟨_, hcl', hat⟩ := World.cells?_some hc
      obtain ⟨t, ht1, ht2⟩ := open_cells _ n' cs' (D i) (Pl i) (Nat.lt_succ_self _) ht
      match cs', hcl' with
      | [u0, u1, u2], _ =>
        have q0 := hat 0 (by omega); have q1 := hat 1 (by omega); have q2 := hat 2 (by omega)
        rw [Go.Deep.add_add] at q0
        exact ⟨(t, u0, u1, u2), ht1, ht2, by simpa using q0, by simpa using q1, by simpa using q2⟩
    have : Inhabited (T × Value × Value × Value) := ⟨(.mk 0 ⟨#[]⟩ [], undef, undef, undef)⟩
    obtain ⟨F, hF⟩ := choose_lt hK
    have hlen : ((List.range len0).map fun i => (F i).1).length = len0 := by simp
    refine ⟨some a, _, (List.range len0).map fun i => (F i).1, by rw [hlen], ?_, ?_⟩
    · have hA : len0 = 0 ∨ ∃ b off, a = ⟨b, off, none⟩ := by
        rcases Nat.eq_zero_or_pos len0 with h0 | h0
        · exact .inl h0
        · obtain ⟨_, _, c0, _⟩ := hF 0 h0
          obtain ⟨b, off, spot⟩ := a
          have hspot : spot = none := by simpa [Addr.add] using World.cell?_spot c0
          subst hspot; exact .inr ⟨b, off, rfl⟩
      exact TermAt.mk (w := w) 0 ⟨#[]⟩ (some a) _ ((List.range len0).map fun i => (F i).1) (fun i => (F i).2) (by decide) (by decide) (by rw [hlen]; exact hl) hm
        (by
          rcases hA with h0 | ⟨b, off, rfl⟩
          · left; rw [hlen]; exact h0
          · refine .inr ⟨b, off, rfl, fun i h => ?_⟩
            rw [hlen] at h
            obtain ⟨_, _, c0, c1, c2⟩ := hF i h
            simp only [Go.WideShapes.add_plain] at c0 c1 c2
            exact ⟨c0, c1, c2⟩)
        (fun i h => by
          rw [hlen] at h
          have := (hF i h).1
          simpa using this)
    · have hb := bulkAll_range D ((List.range len0).map fun i => (F i).1) len0 hlen (fun i h => by rw [hlen] at h; simpa using (hF i h).2.1)
      rw [(Prod.mk.inj hy2).1]
      simp only [Rows.uptoBulk]
      first | omega | (simp; omega)
/-- A set for the known terms and a goal. -/
theorem uni_raw {K : List T} {G : T} (hb : ∀ t ∈ K, t.bulk ≤ 1048576) (hbG : G.bulk ≤ 1048576) :
    ∃ U, Uni U ∧ (∀ t ∈ U, t.bulk ≤ 1048576) ∧ (∀ t ∈ cnt K, t ∈ U) ∧ (G.use = true → G ∈ U) := by
  obtain ⟨hU, hbU⟩ := uni_few ((G :: cnt K).filter T.use) (fun t ht => T.use_valid (List.mem_filter.1 ht).2) (Nat.le_trans (List.length_filter_le _ _) (by
    have : (cnt K).length ≤ 64 := by unfold cnt; exact Nat.le_trans (List.length_filter_le _ _) (by rw [List.length_take]; omega)
    simp; omega)) (fun t ht => by
      rcases List.mem_cons.1 (List.mem_filter.1 ht).1 with rfl | h
      · exact hbG
      · exact hb t (mem_of_cnt t h))
  exact ⟨_, hU, hbU, fun t ht => in_subs (List.mem_filter.2 ⟨List.mem_cons_of_mem _ ht, use_of t ht⟩), fun hu => in_subs (List.mem_filter.2 ⟨by simp, hu⟩)⟩

set_option maxRecDepth 100000 in
set_option maxHeartbeats 16000000 in
theorem ded_raw (K : List T) (A : Option Addr) (cap : Nat) (G : T) (v : Value) (w : World) (h : KnownAt w A cap K) (hT : TermAt w v G) (hb : ∀ t ∈ K, t.bulk ≤ 1048576) (hbG : G.bulk ≤ 1048576) :
    Calls Tryz.prog 4 #[.slice A K.length cap, v] w fun e w' => e = .returned (.bool true) ∧ Below w.heap.size w w' := by
  obtain ⟨U, hU, hbU, hKU, hGU⟩ := uni_raw hb hbG
  obtain ⟨At, ct, rfl⟩ := hT.inAll.view
  have hw := below_alloc1 w (.cells #[.int .i64 G.kind, .string G.name, .slice At G.kids.length ct] 29)
  have bx := Box.new w (.int .i64 G.kind) (.string G.name) (.slice At G.kids.length ct)
  have HK := Lib.hid (h.later hw); have HT := Lib.hid (hT.later hw); have HW := Lib.hid hw
  have HLI := Lib.hid (fun W (h : KnownAt W A cap K) => rlightT W h hb)
  have HLG := Lib.hid (fun W A' c' (h : KnownAt W A' c' [G]) => rlightT W h (fun x hx => by rw [List.mem_singleton] at hx; rw [hx]; exact hbG))
  have hro := rclose_ok hU hKU
  have hsame := fun L' (hc : CloseIs (cnt K) L') => close_same hU hKU hc (Nat.lt_succ_self _)
  have HOC := Lib.hid (fun W (h : KnownAt W A cap K) => oclose hU hbU K A cap W h hb hKU)
  have HRC := Lib.hid (fun W (h : KnownAt W A cap K) => rcloseT hU hbU K A cap W h hb hKU)
  generalize hRR : rrun (U.length + 1) (rfirst (cnt K)) = R at hro hsame HRC
  have HSA := Lib.hid (fun W A1 A2 c1 c2 (h1 : KnownAt W A1 c1 R) (h2 : KnownAt W A2 c2 R) => same_all W h1 h2 (fun x hx => hbU x (hro.mem x hx)))
  have HSM := Lib.hid hsame
  obtain ⟨q, hq⟩ : ∃ q, canB (Wb.fill U.length (cnt K)) G = q := ⟨_, rfl⟩
  have hcs : rcanB U K G = q := by
    rw [← hq]
    exact (can_same hU hKU hGU (Nat.lt_succ_self _) (Nat.lt_succ_self _)).symm
  have HCN := Lib.hid (show ∀ W v', KnownAt W A cap K → TermAt W v' G → Calls Tryz.prog 19 #[.slice A K.length cap, v'] W fun e w' => e = .returned (.bool q) ∧ Below W.heap.size W w' from fun W v' h1 h2 => by
    have := ocan hU hbU K A cap G v' W h1 hb hKU h2 hbG hGU
    rw [hq] at this; exact this)
  have HRN := Lib.hid (show ∀ W v', KnownAt W A cap K → TermAt W v' G → Calls Tryz.prog 24 #[.slice A K.length cap, v'] W fun e w' => e = .returned (.bool q) ∧ Below W.heap.size W w' from fun W v' h1 h2 => by
    have := rcanT hU hbU K A cap G v' W h1 h2 hb hbG hKU
    rw [hcs] at this; exact this)
  clear h hT hw hb hbG hU hbU hKU hGU hro hsame hq hcs hRR
  go_enter Tryz.func4, Tryz.ntmps4
  go_upto_region 1 with fail
  generalize w.alloc (.cells #[.int .i64 G.kind, .string G.name, .slice At G.kids.length ct] 29) = w1 at bx HK HT HW ⊢
  obtain ⟨x0, x1, x2⟩ := bx.cells
  have BX := Lib.hid bx
  clear bx
  go_wp2_with fail
  refine (HLI.out _ HK.out).mono ?_; rintro e w2 ⟨⟨q1, rfl⟩, hb2⟩
  have HB2 := Lib.hid hb2
  have y0 := cell_later hb2 x0; have y1 := cell_later hb2 x1; have y2 := cell_later hb2 x2
  have HT2 := Lib.hid (HT.out.later hb2)
  clear hb2 x0 x1 x2
  cases q1 with
  | false =>
    go_wp2_with fail
    refine (awake _).mono ?_; rintro e w3 ⟨rfl, hb⟩
    have HB := Lib.hid (HB2.out.trans (hb.mono HB2.out.size))
    clear hb
    go_wp2_with fail
    go_ret
    exact ⟨rfl, HW.out.trans (HB.out.mono HW.out.size)⟩
  | true =>
    have hb3 := below_alloc1 w2 (.cells #[.int .i64 G.kind, .string G.name, .slice At G.kids.length ct] 29)
    have HONE := Lib.hid (known_one w2 HT2.out)
    have HB3 := Lib.hid (HB2.out.trans (hb3.mono HB2.out.size))
    clear hb3
    go_wp2_with fail
    refine (HLG.out _ _ _ HONE.out).mono ?_; rintro e w3 ⟨⟨q2, rfl⟩, hb4⟩
    have HB4 := Lib.hid (HB3.out.trans (hb4.mono HB3.out.size))
    clear hb4 y0 y1 y2
    cases q2 with
    | false =>
      go_wp2_with fail
      refine (awake _).mono ?_; rintro e w3 ⟨rfl, hb⟩
      have HB := Lib.hid (HB4.out.trans (hb.mono HB4.out.size))
      clear hb
      go_wp2_with fail
      go_ret
      exact ⟨rfl, HW.out.trans (HB.out.mono HW.out.size)⟩
    | true =>
      obtain ⟨x0, x1, x2⟩ := (BX.out.later HB4.out).cells
      have HK4 := Lib.hid (HK.out.later HB4.out); have HT4 := Lib.hid (HT.out.later HB4.out)
      clear HK HT HT2 HONE HLI HLG
      go_upto_region 3 with fail
      (refine wp_region_held_drew (S := (fun Wq => Wq.cell? ⟨w.heap.size, 0, none⟩ = some (.int .i64 G.kind) ∧ Wq.cell? ⟨w.heap.size, 1, none⟩ = some (.string G.name) ∧ Wq.cell? ⟨w.heap.size, 2, none⟩ = some (.slice At G.kids.length ct) ∧ Below w3.heap.size w3 Wq)) (by kernel_rfl) (show _ ∧ _ ∧ _ ∧ _ from ⟨x0, x1, x2, (Below.refl _ w3).drew⟩) (fun hHeld => ?_))
      (refine wpAnyH_ready (rs := [0]) (by kernel_rfl) (by simp) ?_; refine AllReadyH.cons (by simp only [List.getElem?_toArray, List.getElem?_cons_zero]; rfl) (fun K hK => ?_) AllReadyH.nil; go_simp; go_at_call 11; refine (awake _).mono ?_; rintro e wz ⟨rfl, hb4⟩; refine hK.out _ _ (⟨cell_later hb4 hHeld.1, cell_later hb4 hHeld.2.1, cell_later hb4 hHeld.2.2.1, hHeld.2.2.2.trans (hb4.mono hHeld.2.2.2.size)⟩) (fun hHeld => ?_); clear hK K; (try simp only [Act.put, List.setIfInBounds_toArray, List.set_cons_zero, List.set_cons_succ]))
      ((refine wpAnyH_take (i := 1) (v := ?_) (by simp only [List.getElem?_toArray, List.getElem?_cons_succ, List.getElem?_cons_zero]; rfl) (by kernel_rfl) (by kernel_rfl) (by kernel_rfl) (by exact fun _ _ _ h => h) (Or.inl ⟨by rfl, ?_⟩) (by assumption) ?_; rotate_left 1; · (intro w hSw; (try dsimp only at hSw); go_simp; (try with_reducible rfl))); (try simp only [Act.put, List.setIfInBounds_toArray, List.set_cons_zero, List.set_cons_succ]))
      ((refine wpAnyH_take (i := 2) (v := ?_) (by simp only [List.getElem?_toArray, List.getElem?_cons_succ, List.getElem?_cons_zero]; rfl) (by kernel_rfl) (by kernel_rfl) (by kernel_rfl) (by exact fun _ _ _ h => h) (Or.inl ⟨by rfl, ?_⟩) (by assumption) ?_; rotate_left 1; · (intro w hSw; (try dsimp only at hSw); go_simp; (try with_reducible rfl))); (try simp only [Act.put, List.setIfInBounds_toArray, List.set_cons_zero, List.set_cons_succ]))
      ((refine wpAnyH_take (i := 4) (v := ?_) (by simp only [List.getElem?_toArray, List.getElem?_cons_succ, List.getElem?_cons_zero]; rfl) (by kernel_rfl) (by kernel_rfl) (by kernel_rfl) (by exact fun _ _ _ h => h) (Or.inl ⟨by rfl, ?_⟩) (by assumption) ?_; rotate_left 1; · (intro w hSw; (try dsimp only at hSw); go_simp; (try with_reducible rfl))); (try simp only [Act.put, List.setIfInBounds_toArray, List.set_cons_zero, List.set_cons_succ]))
      (refine wpAnyH_ready (rs := [3]) (by kernel_rfl) (by simp) ?_; refine AllReadyH.cons (by simp only [List.getElem?_toArray, List.getElem?_cons_succ, List.getElem?_cons_zero]; rfl) (fun K hK => ?_) AllReadyH.nil; go_simp; go_at_call 23; refine (HOC.out _ (HK4.out.later hHeld.2.2.2)).mono ?_; rintro e wz2 ⟨A6, c6, L6, rfl, hcl, _, hk6, hb4⟩; have e6 := HSM.out L6 hcl; subst e6; clear hcl; refine hK.out _ _ (⟨cell_later hb4 hHeld.1, cell_later hb4 hHeld.2.1, cell_later hb4 hHeld.2.2.1, hHeld.2.2.2.trans (hb4.mono hHeld.2.2.2.size)⟩) (fun hHeld => ?_); clear hK K; (try simp only [Act.put, List.setIfInBounds_toArray, List.set_cons_zero, List.set_cons_succ]))
      (refine wpAnyH_ready (rs := [5]) (by kernel_rfl) (by simp) ?_; refine AllReadyH.cons (by simp only [List.getElem?_toArray, List.getElem?_cons_succ, List.getElem?_cons_zero]; rfl) (fun K hK => ?_) AllReadyH.nil; go_simp; go_at_call 16; refine (HRC.out _ (HK4.out.later hHeld.2.2.2)).mono ?_; rintro e wz3 ⟨A7, c7, rfl, hk7, hb4⟩; have hk6 := hk6.later hb4; refine hK.out _ _ (⟨cell_later hb4 hHeld.1, cell_later hb4 hHeld.2.1, cell_later hb4 hHeld.2.2.1, hHeld.2.2.2.trans (hb4.mono hHeld.2.2.2.size)⟩) (fun hHeld => ?_); clear hK K; (try simp only [Act.put, List.setIfInBounds_toArray, List.set_cons_zero, List.set_cons_succ]))
      (refine wpAnyH_ready (rs := [6]) (by kernel_rfl) (by simp) ?_; refine AllReadyH.cons (by simp only [List.getElem?_toArray, List.getElem?_cons_succ, List.getElem?_cons_zero]; rfl) (fun K hK => ?_) AllReadyH.nil; go_simp; go_at_call 22; refine (HSA.out _ _ _ _ _ hk6 hk7).mono ?_; rintro e wz4 ⟨rfl, hb4⟩; refine hK.out _ _ (⟨cell_later hb4 hHeld.1, cell_later hb4 hHeld.2.1, cell_later hb4 hHeld.2.2.1, hHeld.2.2.2.trans (hb4.mono hHeld.2.2.2.size)⟩) (fun hHeld => ?_); clear hK K; (try simp only [Act.put, List.setIfInBounds_toArray, List.set_cons_zero, List.set_cons_succ]))
      ((refine wpAnyH_take (i := 7) (v := ?_) (by simp only [List.getElem?_toArray, List.getElem?_cons_succ, List.getElem?_cons_zero]; rfl) (by kernel_rfl) (by kernel_rfl) (by kernel_rfl) (by exact fun _ _ _ h => h) (Or.inl ⟨by rfl, ?_⟩) (by assumption) ?_; rotate_left 1; · (intro w hSw; (try dsimp only at hSw); go_simp; (try with_reducible rfl))); (try simp only [Act.put, List.setIfInBounds_toArray, List.set_cons_zero, List.set_cons_succ]))
      ((refine wpAnyH_take (i := 8) (v := ?_) (by simp only [List.getElem?_toArray, List.getElem?_cons_succ, List.getElem?_cons_zero]; rfl) (by kernel_rfl) (by kernel_rfl) (by kernel_rfl) (by exact fun _ _ _ h => h) (Or.inl ⟨by rfl, ?_⟩) (by assumption) ?_; rotate_left 1; · (intro w hSw; (try dsimp only at hSw); go_simp; (try with_reducible rfl))); (try simp only [Act.put, List.setIfInBounds_toArray, List.set_cons_zero, List.set_cons_succ]))
      ((refine wpAnyH_take (i := 9) (v := ?_) (by simp only [List.getElem?_toArray, List.getElem?_cons_succ, List.getElem?_cons_zero]; rfl) (by kernel_rfl) (by kernel_rfl) (by kernel_rfl) (by exact fun _ _ _ h => h) (Or.inl ⟨by rfl, ?_⟩) (by assumption) ?_; rotate_left 1; · (intro w hSw; (try dsimp only at hSw); go_simp; (try with_reducible rfl))); (try simp only [Act.put, List.setIfInBounds_toArray, List.set_cons_zero, List.set_cons_succ]))
      ((refine wpAnyH_take (i := 10) (v := ?_) (by simp only [List.getElem?_toArray, List.getElem?_cons_succ, List.getElem?_cons_zero]; rfl) (by kernel_rfl) (by kernel_rfl) (by kernel_rfl) (by exact fun _ _ _ h => h) (Or.inl ⟨by rfl, ?_⟩) (by assumption) ?_; rotate_left 1; · (intro w hSw; (try dsimp only at hSw); go_simp; (try with_reducible rfl))); (try simp only [Act.put, List.setIfInBounds_toArray, List.set_cons_zero, List.set_cons_succ]))
      ((refine wpAnyH_take (i := 12) (v := ?_) (by simp only [List.getElem?_toArray, List.getElem?_cons_succ, List.getElem?_cons_zero]; rfl) (by kernel_rfl) (by kernel_rfl) (by kernel_rfl) (by exact fun _ _ _ h => h) (Or.inl ⟨by rfl, ?_⟩) (by assumption) ?_; rotate_left 1; · (intro w hSw; (try dsimp only at hSw); go_simp; (try with_reducible rfl))); (try simp only [Act.put, List.setIfInBounds_toArray, List.set_cons_zero, List.set_cons_succ]))
      ((refine wpAnyH_take (i := 13) (v := ?_) (by simp only [List.getElem?_toArray, List.getElem?_cons_succ, List.getElem?_cons_zero]; rfl) (by kernel_rfl) (by kernel_rfl) (by kernel_rfl) (by exact fun _ _ _ h => h) (Or.inl ⟨by rfl, ?_⟩) (by assumption) ?_; rotate_left 1; · (intro w hSw; (try dsimp only at hSw); go_simp; (try with_reducible rfl))); (try simp only [Act.put, List.setIfInBounds_toArray, List.set_cons_zero, List.set_cons_succ]))
      (refine wpAnyH_ready (rs := [11]) (by kernel_rfl) (by simp) ?_; refine AllReadyH.cons (by simp only [List.getElem?_toArray, List.getElem?_cons_succ, List.getElem?_cons_zero]; rfl) (fun K hK => ?_) AllReadyH.nil; go_simp; go_at_call 19; refine (HCN.out _ _ (HK4.out.later hHeld.2.2.2) (HT4.out.later hHeld.2.2.2)).mono ?_; rintro e wz5 ⟨rfl, hb4⟩; refine hK.out _ _ (⟨cell_later hb4 hHeld.1, cell_later hb4 hHeld.2.1, cell_later hb4 hHeld.2.2.1, hHeld.2.2.2.trans (hb4.mono hHeld.2.2.2.size)⟩) (fun hHeld => ?_); clear hK K; (try simp only [Act.put, List.setIfInBounds_toArray, List.set_cons_zero, List.set_cons_succ]))
      (refine wpAnyH_ready (rs := [14]) (by kernel_rfl) (by simp) ?_; refine AllReadyH.cons (by simp only [List.getElem?_toArray, List.getElem?_cons_succ, List.getElem?_cons_zero]; rfl) (fun K hK => ?_) AllReadyH.nil; go_simp; go_at_call 24; refine (HRN.out _ _ (HK4.out.later hHeld.2.2.2) (HT4.out.later hHeld.2.2.2)).mono ?_; rintro e wz6 ⟨rfl, hb4⟩; refine hK.out _ _ (⟨cell_later hb4 hHeld.1, cell_later hb4 hHeld.2.1, cell_later hb4 hHeld.2.2.1, hHeld.2.2.2.trans (hb4.mono hHeld.2.2.2.size)⟩) (fun hHeld => ?_); clear hK K; (try simp only [Act.put, List.setIfInBounds_toArray, List.set_cons_zero, List.set_cons_succ]))
      ((refine wpAnyH_take (i := 15) (v := ?_) (by simp only [List.getElem?_toArray, List.getElem?_cons_succ, List.getElem?_cons_zero]; rfl) (by kernel_rfl) (by kernel_rfl) (by kernel_rfl) (by exact fun _ _ _ h => h) (Or.inl ⟨by rfl, ?_⟩) (by assumption) ?_; rotate_left 1; · (intro w hSw; (try dsimp only at hSw); go_simp; (try with_reducible rfl))); (try simp only [Act.put, List.setIfInBounds_toArray, List.set_cons_zero, List.set_cons_succ]))
      ((refine wpAnyH_take (i := 16) (v := ?_) (by simp only [List.getElem?_toArray, List.getElem?_cons_succ, List.getElem?_cons_zero]; rfl) (by kernel_rfl) (by kernel_rfl) (by kernel_rfl) (by exact fun _ _ _ h => h) (Or.inl ⟨by rfl, ?_⟩) (by assumption) ?_; rotate_left 1; · (intro w hSw; (try dsimp only at hSw); go_simp; (try with_reducible rfl))); (try simp only [Act.put, List.setIfInBounds_toArray, List.set_cons_zero, List.set_cons_succ]))
      ((refine wpAnyH_take (i := 17) (v := ?_) (by simp only [List.getElem?_toArray, List.getElem?_cons_succ, List.getElem?_cons_zero]; rfl) (by kernel_rfl) (by kernel_rfl) (by kernel_rfl) (by exact fun _ _ _ h => h) (Or.inl ⟨by rfl, ?_⟩) (by assumption) ?_; rotate_left 1; · (intro w hSw; (try dsimp only at hSw); go_simp; (try with_reducible rfl))); (try simp only [Act.put, List.setIfInBounds_toArray, List.set_cons_zero, List.set_cons_succ]))
      (refine wpAnyH_done (by kernel_rfl) ?_ _)
      go_wp2_with fail
      go_ret
      exact ⟨ret_bool (by simp), HW.out.trans ((HB4.out.trans (hHeld.2.2.2.mono HB4.out.size)).mono HW.out.size)⟩
set_option maxRecDepth 100000 in
theorem open_term {H : Type} {enc : TypeId × Value → H} {w : World} {b0 : Nat} {v : Value} {d : DataW H} {p : List MemPlace} {r : Reach}
    (hv : Value.okWide Tryz.prog w r b0 29 v) (h : DataW.Trod enc Tryz.prog w 0 (fun _ => true) true 29 v d p) : ∃ t, TermAt w v t ∧ t.bulk ≤ Rows.uptoBulk d := by
  obtain ⟨cs, rfl, _⟩ := okWide_struct Tryz.underlying29 hv
  obtain ⟨fuel, hf⟩ := h
  have := open_cells _ fuel cs.toList d p (Nat.lt_succ_self _) (by simpa [Value.cells] using hf)
  simpa using this
theorem bulk_two {H : Type} {d d' : DataW H} (h : Rows.uptoSmall H ([d, d'] ++ []) = true) : Rows.uptoBulk d ≤ 1048576 ∧ Rows.uptoBulk d' ≤ 1048576 := by
  have := of_decide_eq_true h
  simp only [List.append_nil, Rows.uptoBulkAll] at this; omega
set_option maxRecDepth 100000 in
theorem walkDeductionRaw {H : Type} {enc : TypeId × Value → H} {X Y Z : Prop} (w : World) (v0 : Value) (d0 : DataW H) {b0 : Nat} {p0 : List MemPlace} {r0 : Reach} (hv0 : Value.okWide Tryz.prog w r0 b0 27 v0) (hd0 : DataW.Trod enc Tryz.prog w 0 (fun _ => true) true 27 v0 d0 p0)
    (v1 : Value) (d1 : DataW H) {b1 : Nat} {p1 : List MemPlace} {r1 : Reach} (hv1 : Value.okWide Tryz.prog w r1 b1 29 v1) (hd1 : DataW.Trod enc Tryz.prog w 0 (fun _ => true) true 29 v1 d1 p1) (_hsz : X) (hcond : Rows.uptoSmall H ([d0, d1] ++ []) = true) (_hL : Y) (_hsh : Z) :
    Calls Tryz.prog 4 #[v0, v1] w fun e w' => e = .returned (.bool true) ∧ Below w.heap.size w w' := by
  obtain ⟨A, cap, L, rfl, h1, h2⟩ := open_known hv0 hd0
  obtain ⟨t, ht, hb⟩ := open_term hv1 hd1
  obtain ⟨c1, c2⟩ := bulk_two hcond
  exact ded_raw L A cap t v1 w h1 ht (fun x hx => Nat.le_trans (bulkAll_mem hx) (Nat.le_trans h2 c1)) (Nat.le_trans hb c2)
end Go.Proofs.YtihbmgkbipeakaaGreat
