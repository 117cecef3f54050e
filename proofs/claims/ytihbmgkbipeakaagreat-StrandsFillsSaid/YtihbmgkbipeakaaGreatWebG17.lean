/- Several texts in one: StrMat, StrMat2, StrRw. -/
import Derived.Test.YtihbmgkbipeakaaGreatWebG16
import Derived.Test.YtihbmgkbipeakaaGreatWebG8
import Derived.Test.YtihbmgkbipeakaaGreatWebG0
namespace Go.Proofs.YtihbmgkbipeakaaGreat
open Go.RowKit T

attribute [local go_sem ↓] Go.wp_at_zero Go.wp_at_succ

theorem TermAt.kidsAt {w : World} {v : Value} {t : T} (h : TermAt w v t) : ∃ A cap, v = .agg #[.int .i64 t.kind, .string t.name, .slice A t.kids.length cap] ∧ KnownAt w A cap t.kids ∧ (0 < t.kids.length → ∃ b off, A = some ⟨b, off, none⟩) := by
  cases h with
  | mk k s A cap ks U h1 h2 h3 h4 hA hU =>
    refine ⟨A, cap, rfl, .mk 0 ⟨#[]⟩ A cap ks U (by decide) (by decide) h3 h4 hA hU, fun h0 => ?_⟩
    rcases hA with h | ⟨b, off, e, _⟩
    · simp only [kids] at h0; omega
    · exact ⟨b, off, e⟩
theorem TermAt.name_le {w : World} {v : Value} {t : T} (h : TermAt w v t) : t.name.size ≤ maxLen := by
  cases h with
  | mk k s A cap ks U h1 h2 h3 h4 hA hU => exact h2
/-- A term in a box, read. -/
def BoxT (w : World) (g : Nat) (t : T) : Prop := ∃ A c, Box w g (.int .i64 t.kind) (.string t.name) (.slice A t.kids.length c) ∧ TermAt w (.agg #[.int .i64 t.kind, .string t.name, .slice A t.kids.length c]) t
theorem BoxT.later {w w' : World} {g : Nat} {t : T} (h : BoxT w g t) (hb : Below w.heap.size w w') : BoxT w' g t := by
  obtain ⟨A, c, h1, h2⟩ := h
  exact ⟨A, c, h1.later hb, h2.later hb⟩
set_option maxRecDepth 100000 in
set_option maxHeartbeats 4000000 in
theorem ocmp_power (x v : T) (xv : Value) (g : Nat) (w : World) (hx : TermAt w xv x) (hv : BoxT w g v) (hb1 : x.bulk ≤ 1048576) (hb2 : v.bulk ≤ 1048576) :
    Calls Tryz.prog 150 #[xv, .pointer (some ⟨g, 0, none⟩)] w fun e w' => e = .returned (.bool (decide (x.cmp v = 0))) ∧ Below w.heap.size w w' := by
  have HC := Lib.hid (fun va vb W ha hb' => ocmp (x.bulk + 1) x v va vb W (by omega) ha hb' hb1 hb2)
  obtain ⟨q, hq⟩ : ∃ q, x.cmp v = q := ⟨_, rfl⟩
  rw [hq] at HC ⊢
  clear hq hb1 hb2
  obtain ⟨A, c, rfl⟩ := TermIn.view hx.inAll
  obtain ⟨B, d, hbx, hvt⟩ := hv
  have hw := below_alloc1 w (.cells #[.int .i64 x.kind, .string x.name, .slice A x.kids.length c] 29)
  have bx := Box.new w (.int .i64 x.kind) (.string x.name) (.slice A x.kids.length c)
  have HX := Lib.hid (hx.later hw); have HV := Lib.hid (hvt.later hw); have by' := hbx.later hw; have HW := Lib.hid hw
  clear hx hvt hbx hw
  go_enter Tryz.func150, Tryz.ntmps150
  go_upto_region 1 with fail
  generalize w.alloc (.cells #[.int .i64 x.kind, .string x.name, .slice A x.kids.length c] 29) = w1 at bx HX HV by' HW ⊢
  obtain ⟨x0, x1, x2⟩ := bx.cells
  obtain ⟨y0, y1, y2⟩ := by'.cells
  clear bx by'
  go_wp2_with fail
  refine (HC.out _ _ _ HX.out HV.out).mono ?_; rintro e w2 ⟨rfl, hb2⟩
  have HB2 := Lib.hid (HW.out.trans (hb2.mono HW.out.size))
  clear hb2
  go_wp2_with fail
  go_ret
  exact ⟨rfl, HB2.out⟩
set_option maxRecDepth 100000 in
set_option maxHeartbeats 4000000 in
theorem index_power (v : T) (g : Nat) (A : Option Addr) (cap : Nat) (ks : List T) (w : World) (hk : KnownAt w A cap ks) (hkn : ks.length ≤ 1048576) (hv : BoxT w g v) (hb1 : ∀ x ∈ ks, x.bulk ≤ 1048576) (hb2 : v.bulk ≤ 1048576) :
    Calls Tryz.prog 123 #[.slice A ks.length cap, .func (.func 150) #[] #[.pointer (some ⟨g, 0, none⟩)]] w fun e w' => e = .returned (.int .i64 (at_ v ks)) ∧ Below w.heap.size w w' := by
  have HK := Lib.hid hk; have HV := Lib.hid hv
  have HC := Lib.hid (fun j (h : j < ks.length) (xv : Value) (W : World) (hx : TermAt W xv ks[j]) (hv : BoxT W g v) => ocmp_power ks[j] v xv g W hx hv (hb1 _ (List.getElem_mem h)) hb2)
  unfold at_
  obtain ⟨p, hp⟩ : ∃ p : T → Bool, (fun x => decide (cmp x v = 0)) = p := ⟨_, rfl⟩
  have HP := Lib.hid (show ∀ x, decide (cmp x v = 0) = p x from fun x => congrFun hp x)
  rw [hp]
  clear hk hv hb1 hb2 hp
  go_enter Tryz.func123, Tryz.ntmps123
  go_wp2_with fail
  go_loopw [8] (fun i wr => ∃ j : Nat, j ≤ ks.length ∧ i = .int .i64 j ∧ (∀ m (h : m < j) (h1 : m < ks.length), p ks[m] = false) ∧ Below w.heap.size w wr) (fun i _ => ks.length - (intOf i).toNat)
  case atStart => exact ⟨0, Nat.zero_le _, rfl, fun m h => absurd h (by omega), Below.refl _ _⟩
  case round =>
    obtain ⟨j, hj, rfl, hz, hbl⟩ := hrel
    have HZ := Lib.hid hz; clear hz
    by_cases hlt : j < ks.length
    · obtain ⟨b, off, B1, C1, rfl, d0, d1, d2, hu⟩ := HK.out.get hlt
      have e0 := cell_later hbl d0; have e1 := cell_later hbl d1; have e2 := cell_later hbl d2
      have hi : (j : Int) < (ks.length : Int) := by omega
      clear d0 d1 d2
      have HU := Lib.hid (hu.later hbl); have HV2 := Lib.hid (HV.out.later hbl)
      have HLT := Lib.hid hlt
      have hc := HC.out j hlt
      have hp := HP.out (ks[j]'hlt)
      obtain ⟨q, hq⟩ : ∃ q, p (ks[j]'hlt) = q := ⟨_, rfl⟩
      rw [hp, hq] at hc
      have HC' := Lib.hid hc
      clear hc hu hp
      have HQ := Lib.hid hq; clear hq
      go_wp2_with fail
      refine (HC'.out _ _ HU.out HV2.out).mono ?_; rintro e w2 ⟨rfl, hb4⟩
      replace hb4 := hbl.trans (hb4.mono hbl.size)
      clear e0 e1 e2
      cases q
      · go_wp2_with fail
        go_roundw
        case rel =>
          refine ⟨j + 1, HLT.out, by go_num, fun m h g1 => ?_, hb4⟩
          rcases Nat.lt_or_ge m j with g | g
          · exact HZ.out m g g1
          · obtain rfl : m = j := by omega
            exact HQ.out
        case measure => have := HLT.out; simp [intOf]; omega
      · have HR := Lib.hid (T.idx_at p ks j hlt (fun m g => HZ.out m g (by omega)) HQ.out)
        go_wp2_with fail
        go_ret
        exact ⟨ret_i64 HR.out.symm, hb4⟩
    · have hi : (ks.length : Int) ≤ (j : Int) := by omega
      have HL := Lib.hid (T.idx_no p ks (fun m g => HZ.out m (by omega) g))
      go_wp2_with fail
      go_ret
      exact ⟨ret_i64 HL.out.symm, hbl⟩
theorem index_power' (v : T) (g n : Nat) (A : Option Addr) (cap : Nat) (ks : List T) (w : World) (hn : n = ks.length) (hk : KnownAt w A cap ks) (hkn : n ≤ 1048576) (hv : BoxT w g v) (hb1 : ∀ x ∈ ks, x.bulk ≤ 1048576) (hb2 : v.bulk ≤ 1048576) :
    Calls Tryz.prog 123 #[.slice A n cap, .func (.func 150) #[] #[.pointer (some ⟨g, 0, none⟩)]] w fun e w' => e = .returned (.int .i64 (at_ v ks)) ∧ Below w.heap.size w w' := by
  subst hn
  exact index_power v g A cap ks w hk hkn hv hb1 hb2

/-- What a match leaves. -/
def MatPost (r : Option (List Bd)) (w : World) (e : Ending) (w' : World) : Prop := Below w.heap.size w w' ∧ match r with
  | none => ∃ v, e = .returned (.tuple #[v, .bool false])
  | some x => ∃ v, e = .returned (.tuple #[v, .bool true]) ∧ BindsAt w' v x
/-- The head of power's loop. -/
structure PowL (w : World) (g2 : Nat) (L : List Bd) (ts ps : List T) (R : Option (List T × ByteArray × Nat)) (n2 c2 : Nat) (free : ByteArray) (opn : Nat) (wr : World) (left : List T) (xs : List Value) : Prop where
  len : n2 = left.length
  ct : CT (fun b => decide (b < g2)) wr xs left
  cells : ∀ k u, xs[k]? = some u → wr.cell? ⟨g2, k, none⟩ = some u
  frz : ∀ k, wr.frozen? ⟨g2, k, none⟩ = false
  cap : n2 ≤ c2 ∧ c2 ≤ maxLen
  run : powGo L ps left free opn = R
  sub : ∀ x ∈ left, x ∈ ts
  opn : 0 < opn → T.look L free = none
  fsz : free.size ≤ maxLen
  below : Below w.heap.size w wr
  lt : w.heap.size + 2 ≤ g2 ∧ g2 < wr.heap.size
theorem PowL.later {w : World} {g2 : Nat} {L : List Bd} {ts ps : List T} {R : Option (List T × ByteArray × Nat)} {n2 c2 : Nat} {free : ByteArray} {opn : Nat} {wr w' : World} {left : List T} {xs : List Value} (h : PowL w g2 L ts ps R n2 c2 free opn wr left xs) (hb : Below wr.heap.size wr w') : PowL w g2 L ts ps R n2 c2 free opn w' left xs :=
  ⟨h.len, h.ct.keep fun b hS hl => ⟨hS, hb.block b hl⟩, fun k u hu => cell_later hb (h.cells k u hu), fun k => (frozen_of_blockS (hb.block g2 h.lt.2)).trans (h.frz k), h.cap, h.run, h.sub, h.opn, h.fsz, h.below.trans (hb.mono h.below.size), h.lt.1, Nat.lt_of_lt_of_le h.lt.2 hb.size⟩
theorem PowL.set {w : World} {g2 : Nat} {L : List Bd} {ts ps : List T} {R : Option (List T × ByteArray × Nat)} {n2 c2 : Nat} {free : ByteArray} {opn : Nat} {wr : World} {left : List T} {xs : List Value} (h : PowL w g2 L ts ps R n2 c2 free opn wr left xs) {g : Nat} (hg : g2 < g) (i : Nat) (u : Value) : PowL w g2 L ts ps R n2 c2 free opn (wr.setCell ⟨g, i, none⟩ u) left xs := by
  have hl := h.lt
  have hk : ∀ b, b ≤ g2 → (wr.setCell ⟨g, i, none⟩ u).heap[b]? = wr.heap[b]? := fun b hb => Below.heap_setCell _ _ _ _ (by show b ≠ g; omega)
  exact ⟨h.len, h.ct.keep fun b hS _ => ⟨hS, hk b (Nat.le_of_lt (of_decide_eq_true hS))⟩, fun k u hu => (World.cell?_of_block (hk g2 (Nat.le_refl _))).trans (h.cells k u hu), fun k => (frozen_of_blockS (hk g2 (Nat.le_refl _))).trans (h.frz k), h.cap, h.run, h.sub, h.opn, h.fsz, h.below.setCell (show w.heap.size ≤ g by omega) _, hl.1, by have := hl.2; simpa [World.setCell] using this⟩
theorem PowL.known {w : World} {g2 : Nat} {L : List Bd} {ts ps : List T} {R : Option (List T × ByteArray × Nat)} {n2 c2 : Nat} {free : ByteArray} {opn : Nat} {wr : World} {left : List T} {xs : List Value} (h : PowL w g2 L ts ps R n2 c2 free opn wr left xs) : KnownAt wr (some ⟨g2, 0, none⟩) c2 left := by
  have h1 := h.len
  have h2 := h.cap
  have := CT.term (b := g2) (cap := c2) (h.ct.keep (S' := fun _ => true) fun b _ _ => ⟨rfl, rfl⟩) h.cells rfl 0 ⟨#[]⟩ (by decide) (by decide) (by omega) h2.2
  exact this.at
set_option maxRecDepth 100000 in
set_option maxHeartbeats 16000000 in
theorem opowerM (p t : T) (L : List Bd) (pv tv bv : Value) (w : World) (hp : TermAt w pv p) (ht : TermAt w tv t) (hb : BindsAt w bv L) (hB : Bok 1048576 L) (hL : L.length ≤ 1000000) (hpb : p.bulk ≤ 1048576) (htb : t.bulk ≤ 1048576) (h0 : 0 < t.kids.length) :
    Calls Tryz.prog 120 #[pv, tv, bv] w (MatPost (pow p.kids t.kids L) w) := by
  obtain ⟨A, c, rfl, hpk, _⟩ := hp.kidsAt
  obtain ⟨B, d, rfl, _, htB⟩ := ht.kidsAt
  obtain ⟨bx, by', hb1, hsz⟩ := box_two w (.int .i64 p.kind) (.string p.name) (.slice A p.kids.length c) (.int .i64 t.kind) (.string t.name) (.slice B t.kids.length d)
  have HT := Lib.hid (ht.later hb1); have HBI := Lib.hid hb; have HBK := Lib.hid hB; have HPK := Lib.hid (kids_bulk hpb); have HTK := Lib.hid (kids_bulk htb)
  have HP := Lib.hid hpk
  have hkn : t.kids.length ≤ 1048576 := by
    cases t with
    | mk k s ks => have := T.len_le ks; simp only [bulk] at htb; simp only [kids]; omega
  have hpn : p.kids.length ≤ 1048576 := by
    cases p with
    | mk k s ks => have := T.len_le ks; simp only [bulk] at hpb; simp only [kids]; omega
  obtain ⟨R, hR⟩ : ∃ R, powGo L p.kids t.kids ⟨#[]⟩ 0 = R := ⟨_, rfl⟩
  have HR := Lib.hid hR
  unfold pow
  rw [hR]
  obtain ⟨ps, hps⟩ : ∃ ps, p.kids = ps := ⟨_, rfl⟩
  obtain ⟨ts, hts⟩ : ∃ ts, t.kids = ts := ⟨_, rfl⟩
  have HTS := Lib.hid hts
  obtain ⟨nb, hnb⟩ : ∃ nb, ps.length = nb := ⟨_, rfl⟩
  rw [hps] at bx by' hb1 HT HPK HP hpn HR hsz ⊢
  rw [hnb] at bx by' hb1 HT hpn hsz ⊢
  have HNB := Lib.hid hnb
  obtain ⟨tb, ta, rfl⟩ := htB h0
  clear hp ht hb hB hpb htb hR hps hts hnb hpk htB
  go_enter Tryz.func120, Tryz.ntmps120
  go_upto_region 1 with fail
  generalize (w.alloc (.cells #[.int .i64 p.kind, .string p.name, .slice A nb c] 29)).alloc (.cells #[.int .i64 t.kind, .string t.name, .slice (some ⟨tb, ta, none⟩) t.kids.length d] 29) = w1 at bx by' hb1 hsz HT ⊢
  obtain ⟨x0, x1, x2⟩ := bx.cells
  obtain ⟨y0, y1, y2⟩ := by'.cells
  have BX := Lib.hid bx; have BY := Lib.hid by'; have HB1 := Lib.hid hb1; have HSZ := Lib.hid hsz
  clear bx by' hb1 hsz
  go_wp2_with fail
  refine (oclone _ HT.out.inAll rfl h0 hkn).mono ?_; rintro e w2 ⟨g2, c2, xs, rfl, hown, hct, hb2⟩
  obtain ⟨_, hg2, hc1, hc2, cur, hcur, _, _⟩ := own_some hown
  have hst : PowL w g2 L ts ps R t.kids.length c2 ⟨#[]⟩ 0 w2 ts xs := by
    have e := HTS.out
    refine ⟨by rw [e], ?_, fun k u hu => ?_, fun k => ?_, ⟨hc1, hc2⟩, by rw [← e]; exact HR.out, fun x hx => hx, fun h => by omega, by decide, HB1.out.trans (hb2.mono HB1.out.size), ⟨by have := HSZ.out; omega, (Array.getElem?_eq_some_iff.1 hcur).1⟩⟩
    · rw [← e]
      exact hct.keep fun b hb hl => ⟨decide_eq_true (by have := of_decide_eq_true hb; omega), hb2.block b hl⟩
    · have := hown.cells (g := g2) rfl k u hu
      rw [Go.WideShapes.add_plain] at this; simpa using this
    · unfold World.frozen?; rw [hcur]; simp
  have HST := Lib.hid hst
  have BX2 := Lib.hid (BX.out.later hb2)
  have HTKK := Lib.hid (show ∀ x ∈ ts, x.bulk ≤ 1048576 by rw [← HTS.out]; exact HTK.out)
  obtain ⟨x0, x1, x2⟩ := BX2.out.cells
  obtain ⟨n0, hn0⟩ : ∃ n0, t.kids.length = n0 := ⟨_, rfl⟩
  rw [hn0] at HST hkn ⊢
  clear y0 y1 y2 hown hct hb2 hcur hst hn0 h0 hc1 hc2
  go_wp2_with fail
  have hps1 : nb ≤ 1048576 := hpn
  clear x0 x1 x2
  go_loopw [22, 8, 9, 10] (fun iv lv fv ov wr => ∃ (j nl : Nat) (free : ByteArray) (opn : Nat) (left : List T) (xs : List Value), j ≤ nb ∧ iv = .int .i64 j ∧ lv = .slice (some ⟨g2, 0, none⟩) nl c2 ∧ fv = .string free ∧ ov = .int .i64 opn ∧ (opn ≤ j ∧ nl ≤ 1048576) ∧ PowL w g2 L ts (ps.drop j) R nl c2 free opn wr left xs) (fun iv _ _ _ _ => nb - (intOf iv).toNat)
  case atStart => exact ⟨0, n0, ⟨#[]⟩, 0, ts, xs, Nat.zero_le _, rfl, rfl, rfl, rfl, ⟨Nat.le_refl _, hkn⟩, HST.out⟩
  case round =>
    obtain ⟨j, nl, free, opn, left, xs, hj, rfl, rfl, rfl, rfl, hln, hpl⟩ := hrel
    have HLN := Lib.hid hln
    by_cases hlt : j < nb
    · have hjl : j < ps.length := by rw [HNB.out]; exact hlt
      obtain ⟨pb, po, B1, C1, rfl, d0', d1', d2', hu⟩ := HP.out.get hjl
      have hstep := hpl.run
      rw [List.drop_eq_getElem_cons hjl] at hstep
      have hkb := HPK.out _ (List.getElem_mem hjl)
      obtain ⟨k, nm, kk, hpk⟩ : ∃ k nm kk, ps[j] = .mk k nm kk := by
        cases ps[j] with
        | mk k nm kk => exact ⟨k, nm, kk, rfl⟩
      rw [hpk] at hstep hkb d0' d1' d2' hu
      have hval : val L (.mk k nm kk) = if k = 2 then T.look L nm else some (.mk k nm kk) := rfl
      simp only [powGo] at hstep
      rw [hval] at hstep
      dsimp only [T.kind, T.name, T.kids] at d0' d1' d2' hu hstep
      have d0 := cell_later hpl.below d0'; have d1 := cell_later hpl.below d1'; have d2 := cell_later hpl.below d2'
      have hi : (j : Int) < (nb : Int) := by omega
      have hq := below_alloc1 wr (.cells #[.int .i64 k, .string nm, .slice B1 kk.length C1] 29)
      have bx12 := Box.new wr (.int .i64 k) (.string nm) (.slice B1 kk.length C1)
      have HU := Lib.hid (hu.later (hpl.below.trans (hq.mono hpl.below.size)))
      have hh := hpl.later hq; have hpg : g2 < wr.heap.size := hpl.lt.2
      have HLT := Lib.hid hlt; have HKB := Lib.hid hkb; have HNMS := Lib.hid (show nm.size ≤ maxLen from hu.name_le)
      clear hpl hq hu hkb d0' d1' d2' hval hpk hjl hj hlt
      go_upto_region 7 with fail
      generalize wr.alloc (.cells #[.int .i64 k, .string nm, .slice B1 kk.length C1] 29) = w3 at bx12 hh HU ⊢
      have hg12 := hpg
      generalize wr.heap.size = g12 at bx12 hg12 ⊢
      have HG12 := Lib.hid hg12
      clear d0 d1 d2 hg12 hpg
      by_cases hk2 : k = 2
      · subst hk2
        rw [if_pos rfl] at hstep
        obtain ⟨z0, z1, z2⟩ := bx12.cells
        have HVA := Lib.hid (ovalue0 nm L bv w w3 HBI.out hh.below)
        have HH0 := Lib.hid hh; have BX12 := Lib.hid bx12
        clear hh bx12
        cases hl : T.look L nm with
        | none =>
          rw [hl] at HVA hstep
          have HL := Lib.hid hl; have HSTEP := Lib.hid hstep
          clear hl hstep
          go_wp2_with fail
          refine HVA.out.mono ?_; rintro e w5 ⟨hb5, he⟩
          have he' : e = .returned (.tuple #[.agg #[.int .i64 0, .string ⟨#[]⟩, .slice none 0 0], .bool false]) := he
          subst he'
          have hq5 := below_alloc1 w5 (.cells #[.int .i64 0, .string ⟨#[]⟩, .slice none 0 0] 29)
          have hh5 := HH0.out.later (hb5.trans (hq5.mono hb5.size))
          obtain ⟨z0, z1, z2⟩ := (BX12.out.later (hb5.trans (hq5.mono hb5.size))).cells
          have ho64 : IntKind.i64.wrap ((opn : Int) + 1) = ((opn + 1 : Nat) : Int) := by rw [IntKind.wrap_i64]; have := HLN.out; have := HLT.out; omega
          have HH5 := Lib.hid hh5
          clear he hb5 hq5 hh5
          go_upto_region 9 with fail
          generalize w5.alloc (.cells #[.int .i64 0, .string ⟨#[]⟩, .slice none 0 0] 29) = w6 at z0 z1 z2 HH5 ⊢
          go_wp2_with fail
          go_roundw
          case rel => exact ⟨j + 1, nl, nm, opn + 1, left, xs, HLT.out, by go_num, rfl, rfl, (by rw [Int.natCast_add]; rfl), by have := HLN.out; omega, ⟨HH5.out.len, HH5.out.ct, HH5.out.cells, HH5.out.frz, HH5.out.cap, HSTEP.out, HH5.out.sub, fun _ => HL.out, HNMS.out, HH5.out.below, HH5.out.lt⟩⟩
          case measure => have := HLT.out; simp [intOf]; omega
        | some v =>
          rw [hl] at HVA hstep
          dsimp only at hstep
          have hvb := (HBK.out.2 _ (look_mem hl).choose_spec.1)
          rw [(look_mem hl).choose_spec.2.2] at hvb
          have HVB := Lib.hid hvb; have HSTEP := Lib.hid hstep
          clear hl hvb hstep
          go_wp2_with fail
          refine HVA.out.mono ?_; rintro e w5 ⟨hb5, he⟩
          have he' : ∃ A c, e = .returned (.tuple #[.agg #[.int .i64 v.kind, .string v.name, .slice A v.kids.length c], .bool true]) ∧ TermAt w (.agg #[.int .i64 v.kind, .string v.name, .slice A v.kids.length c]) v := he
          obtain ⟨A5, c5, rfl, hv5⟩ := he'
          have hq5 := below_alloc1 w5 (.cells #[.int .i64 v.kind, .string v.name, .slice A5 v.kids.length c5] 29)
          have bx13 := Box.new w5 (.int .i64 v.kind) (.string v.name) (.slice A5 v.kids.length c5)
          have hh5 := HH0.out.later (hb5.trans (hq5.mono hb5.size))
          have bx12 := BX12.out.later (hb5.trans (hq5.mono hb5.size))
          have HV5 := Lib.hid hv5
          clear he hb5 hq5 z0 z1 z2 hv5
          go_upto_region 9 with fail
          generalize w5.alloc (.cells #[.int .i64 v.kind, .string v.name, .slice A5 v.kids.length c5] 29) = w6 at bx12 bx13 hh5 ⊢
          obtain ⟨z0, z1, z2⟩ := bx12.cells; obtain ⟨f0, f1, f2⟩ := bx12.free
          obtain ⟨y0, y1, y2⟩ := bx13.cells
          have hset := ((hh5.set HG12.out 0 (.int .i64 v.kind)).set HG12.out 1 (.string v.name)).set HG12.out 2 (.slice A5 v.kids.length c5)
          have HBT := Lib.hid (show BoxT (((w6.setCell ⟨g12, 0, none⟩ (.int .i64 v.kind)).setCell ⟨g12, 1, none⟩ (.string v.name)).setCell ⟨g12, 2, none⟩ (.slice A5 v.kids.length c5)) g12 v from ⟨A5, c5, box_set3 bx12 _ _ _, HV5.out.later hset.below⟩)
          have HH := Lib.hid hset
          clear hset hh5 bx12 bx13
          go_wp2_with fail
          clear z0 z1 z2 f0 f1 f2 y0 y1 y2
          refine (index_power' v g12 nl (some ⟨g2, 0, none⟩) c2 left _ HH.out.len HH.out.known HLN.out.2 HBT.out (fun y hy => HTKK.out y (HH.out.sub y hy)) HVB.out).mono ?_; rintro e w7 ⟨rfl, hb7⟩
          have HH7 := Lib.hid (HH.out.later hb7)
          clear hb7
          have hstep := HSTEP.out
          obtain ⟨ix, hix⟩ : ∃ ix, at_ v left = ix := ⟨_, rfl⟩
          rw [hix] at hstep ⊢
          by_cases hneg : ix < 0
          · rw [if_pos hneg] at hstep
            subst hstep
            go_wp2_with fail
            go_ret2
            exact ⟨HH7.out.below, _, rfl⟩
          · rw [if_neg hneg] at hstep
            obtain ⟨hil, _⟩ := at_spec (v := v) (l := left) (by rw [hix]; omega)
            rw [hix] at hil
            obtain ⟨i, hi⟩ : ∃ i : Nat, ix = (i : Int) := ⟨ix.toNat, by omega⟩
            subst hi
            rw [Int.toNat_natCast] at hstep hil
            have hin : i < nl := by have := HH7.out.len; omega
            have hcapn := HH7.out.cap.1
            have hi64 : IntKind.i64.wrap ((i : Int) + 1) = ((i + 1 : Nat) : Int) := by rw [IntKind.wrap_i64]; have := HLN.out; omega
            have HST := Lib.hid hstep; have HIL := Lib.hid hil; have HIX := Lib.hid hix
            clear hstep hil hix
            go_wp2_with fail
            refine (odeleteF g2 nl c2 i (i + 1) xs _ (by rw [HH7.out.ct.1, HH7.out.len]) rfl hin hcapn (fun k u hu => by simpa using HH7.out.cells k u hu) (fun k _ => HH7.out.frz k) HH7.out.ct.one').mono ?_; rintro e w8 ⟨rfl, hc8, hf8, hb8⟩
            have hnew : PowL w g2 L ts (ps.drop (j + 1)) R (nl - 1) c2 free opn w8 (left.eraseIdx i) (xs.take (i * 3) ++ xs.drop ((i + 1) * 3)) := by
              refine ⟨by rw [List.length_eraseIdx_of_lt HIL.out, HH7.out.len], (HH7.out.ct.erase i).keep fun b hb hl => ⟨hb, hb8.block b (of_decide_eq_true hb)⟩, hc8, fun k => (hf8 k).trans (HH7.out.frz k), ⟨by omega, HH7.out.cap.2⟩, HST.out, fun y hy => HH7.out.sub y (List.mem_of_mem_eraseIdx hy), HH7.out.opn, HH7.out.fsz, HH7.out.below.trans (hb8.mono (by have := HH7.out.lt; omega)), ⟨HH7.out.lt.1, Nat.lt_of_lt_of_le HH7.out.lt.2 hb8.size⟩⟩
            have HNEW := Lib.hid hnew
            clear hc8 hf8 hb8 hnew
            go_wp2_with fail
            go_roundw
            case rel => exact ⟨j + 1, nl - 1, free, opn, left.eraseIdx i, _, HLT.out, by go_num, rfl, rfl, rfl, by have := HLN.out; omega, HNEW.out⟩
            case measure => have := HLT.out; simp [intOf]; omega
      · rw [if_neg hk2] at hstep
        dsimp only at hstep
        obtain ⟨z0, z1, z2⟩ := bx12.cells
        have HBT := Lib.hid (show BoxT w3 g12 (.mk k nm kk) from ⟨B1, C1, bx12, HU.out⟩)
        generalize hv : T.mk k nm kk = v at hstep HBT HKB
        have HVB := Lib.hid HKB.out; have HH := Lib.hid hh; have HSTEP := Lib.hid hstep
        clear hh bx12 hv hstep
        go_wp2_with fail
        clear z0 z1 z2
        refine (index_power' v g12 nl (some ⟨g2, 0, none⟩) c2 left _ HH.out.len HH.out.known HLN.out.2 HBT.out (fun y hy => HTKK.out y (HH.out.sub y hy)) HVB.out).mono ?_; rintro e w7 ⟨rfl, hb7⟩
        have HH7 := Lib.hid (HH.out.later hb7)
        clear hb7
        have hstep := HSTEP.out
        obtain ⟨ix, hix⟩ : ∃ ix, at_ v left = ix := ⟨_, rfl⟩
        rw [hix] at hstep ⊢
        by_cases hneg : ix < 0
        · rw [if_pos hneg] at hstep
          subst hstep
          go_wp2_with fail
          go_ret2
          exact ⟨HH7.out.below, _, rfl⟩
        · rw [if_neg hneg] at hstep
          obtain ⟨hil, _⟩ := at_spec (v := v) (l := left) (by rw [hix]; omega)
          rw [hix] at hil
          obtain ⟨i, hi⟩ : ∃ i : Nat, ix = (i : Int) := ⟨ix.toNat, by omega⟩
          subst hi
          rw [Int.toNat_natCast] at hstep hil
          have hin : i < nl := by have := HH7.out.len; omega
          have hcapn := HH7.out.cap.1
          have hi64 : IntKind.i64.wrap ((i : Int) + 1) = ((i + 1 : Nat) : Int) := by rw [IntKind.wrap_i64]; have := HLN.out; omega
          have HST := Lib.hid hstep; have HIL := Lib.hid hil; have HIX := Lib.hid hix
          clear hstep hil hix
          go_wp2_with fail
          refine (odeleteF g2 nl c2 i (i + 1) xs _ (by rw [HH7.out.ct.1, HH7.out.len]) rfl hin hcapn (fun k u hu => by simpa using HH7.out.cells k u hu) (fun k _ => HH7.out.frz k) HH7.out.ct.one').mono ?_; rintro e w8 ⟨rfl, hc8, hf8, hb8⟩
          have hnew : PowL w g2 L ts (ps.drop (j + 1)) R (nl - 1) c2 free opn w8 (left.eraseIdx i) (xs.take (i * 3) ++ xs.drop ((i + 1) * 3)) := by
            refine ⟨by rw [List.length_eraseIdx_of_lt HIL.out, HH7.out.len], (HH7.out.ct.erase i).keep fun b hb hl => ⟨hb, hb8.block b (of_decide_eq_true hb)⟩, hc8, fun k => (hf8 k).trans (HH7.out.frz k), ⟨by omega, HH7.out.cap.2⟩, HST.out, fun y hy => HH7.out.sub y (List.mem_of_mem_eraseIdx hy), HH7.out.opn, HH7.out.fsz, HH7.out.below.trans (hb8.mono (by have := HH7.out.lt; omega)), ⟨HH7.out.lt.1, Nat.lt_of_lt_of_le HH7.out.lt.2 hb8.size⟩⟩
          have HNEW := Lib.hid hnew
          clear hc8 hf8 hb8 hnew
          go_wp2_with fail
          go_roundw
          case rel => exact ⟨j + 1, nl - 1, free, opn, left.eraseIdx i, _, HLT.out, by go_num, rfl, rfl, rfl, by have := HLN.out; omega, HNEW.out⟩
          case measure => have := HLT.out; simp [intOf]; omega
    · obtain rfl : j = nb := by omega
      have hR2 := hpl.run
      rw [List.drop_eq_nil_of_le (by rw [HNB.out]; exact Nat.le_refl _)] at hR2
      have hR3 : R = some (left, free, opn) := hR2.symm
      subst hR3
      have hlen := hpl.len
      have hopn := hpl.opn
      have HPL := Lib.hid hpl
      have hi : ¬ (j : Int) < (j : Int) := by omega
      clear hpl hR2
      by_cases ho : opn = 0
      · subst ho
        have HBL := Lib.hid (HBI.out.later HPL.out.below)
        clear hopn
        by_cases hz : nl = 0
        · have HE := Lib.hid (show powEnd L (some (left, free, 0)) = some L from by simp only [powEnd, ← hlen, if_pos hz, if_true])
          subst hz
          clear hlen
          go_wp2_with fail
          go_ret2
          refine ⟨HPL.out.below, ?_⟩
          rw [HE.out]
          exact ⟨_, rfl, HBL.out⟩
        · have HE := Lib.hid (show powEnd L (some (left, free, 0)) = none from by simp only [powEnd, ← hlen, if_neg hz, if_true])
          have hz' : ((nl : Int) == 0) = false := by rw [beq_eq_false_iff_ne]; omega
          clear hlen
          go_wp2_with fail
          go_ret2
          refine ⟨HPL.out.below, ?_⟩
          rw [HE.out]
          exact ⟨_, rfl⟩
      · have ho' : ((opn : Int) == 0) = false := by rw [beq_eq_false_iff_ne]; omega
        by_cases h1 : opn = 1
        · subst h1
          by_cases hn1 : nl = 1
          · subst hn1
            have HFR := Lib.hid (hopn (by decide))
            have h0l : 0 < left.length := by omega
            obtain ⟨lb, lo, Bx, cx, eA, d0, d1, d2, hxt⟩ := HPL.out.known.get h0l
            injection eA with eA; injection eA with eA eB; subst eA; subst eB
            obtain ⟨y, hy⟩ : ∃ y, left[0] = y := ⟨_, rfl⟩
            have HE := Lib.hid (show powEnd L (some (left, free, 1)) = some (ins L free y) from by
              simp only [powEnd, ← hlen, List.getElem?_eq_getElem h0l, hy]; rfl)
            rw [hy] at d0 d1 d2 hxt
            simp only [Nat.zero_mul, Nat.add_zero, Nat.zero_add] at d0 d1 d2
            have HBD := Lib.hid (fun v => obind free L y bv v _ (HBI.out.later HPL.out.below) HBK.out.1 hL HPL.out.fsz)
            have HXT := Lib.hid hxt
            have HBW := Lib.hid HPL.out.below
            clear hopn h0l hy hxt hlen
            go_wp2_with fail
            refine (HBD.out _ HXT.out).mono ?_; rintro e w9 ⟨v9, rfl, hv9, hb9⟩
            have HV9 := Lib.hid hv9; have HB9 := Lib.hid (HBW.out.trans (hb9.mono HBW.out.size))
            clear hv9 hb9 d0 d1 d2
            go_wp2_with fail
            go_ret2
            refine ⟨HB9.out, ?_⟩
            rw [HE.out]
            exact ⟨_, rfl, HV9.out⟩
          · have HE := Lib.hid (show powEnd L (some (left, free, 1)) = none from by
              simp only [powEnd, ← hlen]; rw [if_neg (by omega), if_neg (by omega)])
            have hn1' : ((nl : Int) == 1) = false := by rw [beq_eq_false_iff_ne]; omega
            clear hopn hlen
            go_wp2_with fail
            go_ret2
            refine ⟨HPL.out.below, ?_⟩
            rw [HE.out]
            exact ⟨_, rfl⟩
        · have HE := Lib.hid (show powEnd L (some (left, free, opn)) = none from by
            simp only [powEnd, ← hlen]; rw [if_neg ho, if_neg (by omega)])
          have h1' : ((opn : Int) == 1) = false := by rw [beq_eq_false_iff_ne]; omega
          clear hopn hlen
          go_wp2_with fail
          go_ret2
          refine ⟨HPL.out.below, ?_⟩
          rw [HE.out]
          exact ⟨_, rfl⟩
end Go.Proofs.YtihbmgkbipeakaaGreat

namespace Go.Proofs.YtihbmgkbipeakaaGreat
open Go.RowKit T

attribute [local go_sem ↓] Go.wp_at_zero Go.wp_at_succ

theorem sizeAll_drop (l : List T) (j : Nat) (h : j < l.length) : sizeAll (l.drop j) = l[j].size + sizeAll (l.drop (j + 1)) := by
  rw [List.drop_eq_getElem_cons h]; rfl
theorem matAll_drop {ps ts : List T} {b : List Bd} {j : Nat} (h : j < ps.length) (h' : j < ts.length) : matAll (ps.drop j) (ts.drop j) b = match mat ps[j] ts[j] b with
    | none => none
    | some c => matAll (ps.drop (j + 1)) (ts.drop (j + 1)) c := by
  rw [List.drop_eq_getElem_cons h, List.drop_eq_getElem_cons h']; simp only [matAll]; rfl
set_option maxRecDepth 100000 in
set_option maxHeartbeats 16000000 in
theorem omatch : ∀ (N : Nat) (p t : T) (L : List Bd) (pv tv bv : Value) (w : World), p.bulk < N → TermAt w pv p → TermAt w tv t → BindsAt w bv L → Bok 1048576 L → L.length + p.size ≤ 1000000 → p.bulk ≤ 1048576 → t.bulk ≤ 1048576 → p.shape = true →
    Calls Tryz.prog 79 #[pv, tv, bv] w (MatPost (mat p t L) w) := by
  intro N
  induction N with
  | zero => intro p t L pv tv bv w h; omega
  | succ N ih =>
    intro p t L pv tv bv w hN hp ht hb hB hL hpb htb hsh
    obtain ⟨A, c, rfl, hpk, _⟩ := hp.kidsAt
    obtain ⟨B, d, rfl, htk, htB⟩ := ht.kidsAt
    obtain ⟨k, s, ks, rfl⟩ : ∃ k s ks, p = .mk k s ks := by
      cases p with
      | mk k s ks => exact ⟨k, s, ks, rfl⟩
    obtain ⟨k', s', ts, rfl⟩ : ∃ k s ks, t = .mk k s ks := by
      cases t with
      | mk k s ks => exact ⟨k, s, ks, rfl⟩
    have hss := hp.name_le
    dsimp only [T.kind, T.name, T.kids] at hpk htk htB hp ht hss ⊢
    have hmat : mat (.mk k s ks) (.mk k' s' ts) L = if k = 2 then (match T.look L s with
        | some v => if cmp v (.mk k' s' ts) = 0 then some L else none
        | none => some (ins L s (.mk k' s' ts)))
      else if k ≠ k' ∨ s ≠ s' ∨ ks.length ≠ ts.length then none
      else if k = 7 then pow ks ts L else matAll ks ts L := by
      simp only [mat, T.kind, T.name, T.kids]; rfl
    obtain ⟨R, hR⟩ : ∃ R, mat (.mk k s ks) (.mk k' s' ts) L = R := ⟨_, rfl⟩
    rw [hR] at hmat ⊢
    have HRR := Lib.hid hmat
    clear hR
    obtain ⟨bx, by', hb1, hsz⟩ := box_two w (.int .i64 k) (.string s) (.slice A ks.length c) (.int .i64 k') (.string s') (.slice B ts.length d)
    have HP := Lib.hid hpk; have HTK := Lib.hid htk; have HTT := Lib.hid ht; have HPP := Lib.hid hp; have HB := Lib.hid hb; have HBK := Lib.hid hB; have IH := Lib.hid ih; have HSH := Lib.hid hsh
    have HN := Lib.hid hN; have HL := Lib.hid hL; have HPB := Lib.hid hpb; have HTB := Lib.hid htb; have HSS := Lib.hid hss; have HTBB := Lib.hid htB
    clear hpk htk ht hp hb hB ih hmat htB hsh hN hL hpb htb hss
    go_enter Tryz.func79, Tryz.ntmps79
    go_upto_region 1 with fail
    generalize (w.alloc (.cells #[.int .i64 k, .string s, .slice A ks.length c] 29)).alloc (.cells #[.int .i64 k', .string s', .slice B ts.length d] 29) = w1 at bx by' hb1 hsz ⊢
    obtain ⟨x0, x1, x2⟩ := bx.cells
    obtain ⟨y0, y1, y2⟩ := by'.cells
    have BX := Lib.hid bx; have BY := Lib.hid by'; have HB1 := Lib.hid hb1; have HSZ := Lib.hid hsz
    clear bx by' hb1 hsz
    by_cases hk2 : k = 2
    · subst hk2
      have HVA := Lib.hid (ovalue0 s L bv w w1 HB.out HB1.out)
      cases hl : T.look L s with
      | none =>
        rw [hl] at HVA
        obtain rfl : R = some (ins L s (.mk k' s' ts)) := HRR.out.trans (by rw [if_pos rfl, hl])
        have HLK := Lib.hid hl
        clear hl
        go_wp2_with fail
        refine HVA.out.mono ?_; rintro e w2 ⟨hb2, he⟩
        have he' : e = .returned (.tuple #[.agg #[.int .i64 0, .string ⟨#[]⟩, .slice none 0 0], .bool false]) := he
        subst he'
        have hq2 := below_alloc1 w2 (.cells #[.int .i64 0, .string ⟨#[]⟩, .slice none 0 0] 29)
        have hb3 := hb2.trans (hq2.mono hb2.size)
        have HB3 := Lib.hid (HB1.out.trans (hb3.mono HB1.out.size))
        obtain ⟨u0, u1, u2⟩ := (BX.out.later hb3).cells
        obtain ⟨z0, z1, z2⟩ := (BY.out.later hb3).cells
        clear he hb2 hq2 hb3 x0 x1 x2 y0 y1 y2
        go_upto_region 3 with fail
        generalize w2.alloc (.cells #[.int .i64 0, .string ⟨#[]⟩, .slice none 0 0] 29) = w3 at HB3 u0 u1 u2 z0 z1 z2 ⊢
        have HBD := Lib.hid (obind s L (.mk k' s' ts) bv _ w3 (HB.out.later HB3.out) HBK.out.1 (by have := HL.out; omega) HSS.out (HTT.out.later HB3.out))
        go_wp2_with fail
        refine HBD.out.mono ?_; rintro e w4 ⟨v4, rfl, hv4, hb4⟩
        have HV4 := Lib.hid hv4; have HB4 := Lib.hid (HB3.out.trans (hb4.mono HB3.out.size))
        clear hv4 hb4 u0 u1 u2 z0 z1 z2
        go_wp2_with fail
        go_ret2
        exact ⟨HB4.out, _, rfl, HV4.out⟩
      | some v =>
        rw [hl] at HVA
        have hvb := (HBK.out.2 _ (look_mem hl).choose_spec.1)
        rw [(look_mem hl).choose_spec.2.2] at hvb
        have HVB := Lib.hid hvb
        have HRV := Lib.hid (show R = if cmp v (.mk k' s' ts) = 0 then some L else none from HRR.out.trans (by rw [if_pos rfl, hl]))
        clear hl hvb
        go_wp2_with fail
        refine HVA.out.mono ?_; rintro e w2 ⟨hb2, he⟩
        have he' : ∃ A c, e = .returned (.tuple #[.agg #[.int .i64 v.kind, .string v.name, .slice A v.kids.length c], .bool true]) ∧ TermAt w (.agg #[.int .i64 v.kind, .string v.name, .slice A v.kids.length c]) v := he
        obtain ⟨A5, c5, rfl, hv5⟩ := he'
        have hq2 := below_alloc1 w2 (.cells #[.int .i64 v.kind, .string v.name, .slice A5 v.kids.length c5] 29)
        have hb3 := hb2.trans (hq2.mono hb2.size)
        have HB3 := Lib.hid (HB1.out.trans (hb3.mono HB1.out.size))
        obtain ⟨z0, z1, z2⟩ := (BY.out.later hb3).cells
        have bx8 := Box.new w2 (.int .i64 v.kind) (.string v.name) (.slice A5 v.kids.length c5)
        have HV5 := Lib.hid (hv5.later HB3.out)
        clear he hb2 hq2 hb3 x0 x1 x2 y0 y1 y2 hv5
        go_upto_region 3 with fail
        generalize w2.alloc (.cells #[.int .i64 v.kind, .string v.name, .slice A5 v.kids.length c5] 29) = w3 at HB3 z0 z1 z2 bx8 HV5 ⊢
        obtain ⟨u0, u1, u2⟩ := bx8.cells
        have HC := Lib.hid (ocmp (v.bulk + 1) v (.mk k' s' ts) _ _ w3 (by omega) HV5.out (HTT.out.later HB3.out) HVB.out HTB.out)
        obtain ⟨q, hq⟩ : ∃ q, v.cmp (.mk k' s' ts) = q := ⟨_, rfl⟩
        have hqc : cmp v (.mk k' s' ts) = q := hq
        rw [hq] at HC
        have hRq := HRV.out
        rw [hqc] at hRq
        clear bx8 hq hqc
        by_cases h0 : q = 0
        · subst h0
          rw [if_pos rfl] at hRq
          subst hRq
          go_wp2_with fail
          refine HC.out.mono ?_; rintro e w4 ⟨rfl, hb4⟩
          have HB4 := Lib.hid (HB3.out.trans (hb4.mono HB3.out.size))
          clear hb4 u0 u1 u2 z0 z1 z2
          go_wp2_with fail
          go_ret2
          exact ⟨HB4.out, _, rfl, HB.out.later HB4.out⟩
        · rw [if_neg h0] at hRq
          subst hRq
          have hq0 : (q == 0) = false := by rw [beq_eq_false_iff_ne]; exact h0
          go_wp2_with fail
          refine HC.out.mono ?_; rintro e w4 ⟨rfl, hb4⟩
          have HB4 := Lib.hid (HB3.out.trans (hb4.mono HB3.out.size))
          clear hb4 u0 u1 u2 z0 z1 z2
          go_wp2_with fail
          go_ret2
          exact ⟨HB4.out, _, rfl⟩
    · have hR1 := HRR.out
      rw [if_neg hk2] at hR1
      by_cases e1 : k = k'
      · subst e1
        by_cases e2 : s = s'
        · subst e2
          by_cases e3 : ks.length = ts.length
          · rw [if_neg (by simp [e3])] at hR1
            have hl2 : ((ks.length : Int) != (ts.length : Int)) = false := by rw [e3]; simp
            have HE3 := Lib.hid e3
            clear e3
            by_cases h7 : k = 7
            · subst h7
              rw [if_pos rfl] at hR1
              have HR1 := Lib.hid hR1
              clear hR1
              have hkb := HPB.out; have htb := HTB.out
              have h0 : 0 < ts.length := by rw [← HE3.out]; exact (T.shape_seven HSH.out).1
              have HPW := Lib.hid (opowerM (.mk 7 s ks) (.mk 7 s ts) L _ _ bv w1 (HPP.out.later HB1.out) (HTT.out.later HB1.out) (HB.out.later HB1.out) HBK.out (by have := HL.out; omega) hkb htb h0)
              dsimp only [T.kind, T.name, T.kids] at HPW
              clear h0 hkb htb
              go_wp2_with fail
              refine HPW.out.mono ?_; rintro e w2 ⟨hb2, he⟩
              have HB2 := Lib.hid (HB1.out.trans (hb2.mono HB1.out.size))
              have hR1 := HR1.out
              revert he hR1
              cases pow ks ts L with
              | none =>
                rintro ⟨v, rfl⟩ rfl
                clear hb2 x0 x1 x2 y0 y1 y2 hl2
                go_wp2_with fail
                go_ret2
                exact ⟨HB2.out, _, rfl⟩
              | some x =>
                rintro ⟨v, rfl, hv⟩ rfl
                have HV := Lib.hid hv
                clear hb2 x0 x1 x2 y0 y1 y2 hl2 hv
                go_wp2_with fail
                go_ret2
                exact ⟨HB2.out, _, rfl, HV.out⟩
            · rw [if_neg h7] at hR1
              have HRM := Lib.hid hR1
              have HE4 := Lib.hid (show sizeAll ks ≤ 1000000 - L.length from by have := HL.out; simp only [size] at this; omega)
              obtain ⟨n, hn⟩ : ∃ n, ks.length = n := ⟨_, rfl⟩
              have HNN := Lib.hid hn
              have hnb : n ≤ 1048576 := by
                have := T.len_le ks; have h2 := HPB.out; simp only [bulk] at h2; omega
              rw [hn] at x2 BX hl2 ⊢
              clear hn hR1
              go_wp2_with fail
              clear x0 x1 x2 hl2
              go_loopw [70, 2] (fun iv bw wr => ∃ (j : Nat) (bj : List Bd), j ≤ n ∧ iv = .int .i64 j ∧ BindsAt wr bw bj ∧ Bok 1048576 bj ∧ bj.length + sizeAll (ks.drop j) ≤ 1000000 ∧ R = matAll (ks.drop j) (ts.drop j) bj ∧ Below w1.heap.size w1 wr) (fun iv _ _ => n - (intOf iv).toNat)
              case atStart => exact ⟨0, L, Nat.zero_le _, rfl, HB.out.later HB1.out, HBK.out, by rw [List.drop_zero]; have := HE4.out; have := HL.out; omega, by rw [List.drop_zero, List.drop_zero]; exact HRM.out, Below.refl _ _⟩
              case round =>
                obtain ⟨j, bj, hj, rfl, hbj, hbk, hsz, hrun, hbw⟩ := hrel
                by_cases hlt : j < n
                · have hjl : j < ks.length := by rw [HNN.out]; exact hlt
                  have hjt : j < ts.length := by rw [← HE3.out]; exact hjl
                  have hw0 := HB1.out.trans (hbw.mono HB1.out.size)
                  obtain ⟨pb, po, B1, C1, rfl, d0', d1', d2', hu⟩ := HP.out.get hjl
                  obtain ⟨tb, ta, B2, C2, eB, g0', g1', g2', hu2⟩ := HTK.out.get hjt
                  subst eB
                  rw [matAll_drop hjl hjt] at hrun
                  rw [sizeAll_drop ks j hjl] at hsz
                  have hkb := HPB.out; have htb := HTB.out
                  simp only [bulk] at hkb htb
                  have hnn := HN.out
                  simp only [bulk] at hnn
                  have b1 := T.bulk_at ks j hjl; have b2 := T.bulk_at ts j hjt
                  have hks := T.shape_kids HSH.out j hjl
                  obtain ⟨pk, hpk⟩ : ∃ pk, ks[j] = pk := ⟨_, rfl⟩
                  obtain ⟨tk, htk⟩ : ∃ tk, ts[j] = tk := ⟨_, rfl⟩
                  rw [hpk] at d0' d1' d2' hu hrun hsz b1 hks
                  rw [htk] at g0' g1' g2' hu2 hrun b2
                  have d0 := cell_later hw0 d0'; have d1 := cell_later hw0 d1'; have d2 := cell_later hw0 d2'
                  have hi : (j : Int) < (n : Int) := by omega
                  have hq := below_alloc1 wr (.cells #[.int .i64 pk.kind, .string pk.name, .slice B1 pk.kids.length C1] 29)
                  have bx12 := Box.new wr (.int .i64 pk.kind) (.string pk.name) (.slice B1 pk.kids.length C1)
                  have g0 := cell_later hq (cell_later hw0 g0'); have g1 := cell_later hq (cell_later hw0 g1'); have g2 := cell_later hq (cell_later hw0 g2')
                  obtain ⟨y0, y1, y2⟩ := ((BY.out.later hbw).later hq).cells
                  have hi1 : (0 : Int) ≤ (j : Int) := by omega
                  have hi2 : (j : Int) < (ts.length : Int) := by omega
                  have HU := Lib.hid ((hu.later hw0).later hq); have HU2 := Lib.hid ((hu2.later hw0).later hq); have HBJ := Lib.hid (hbj.later hq); have HBW := Lib.hid (hbw.trans (hq.mono hbw.size))
                  have HLT := Lib.hid hlt; have HBKJ := Lib.hid hbk; have HSZJ := Lib.hid hsz; have HRUN := Lib.hid hrun
                  have HIH := Lib.hid (fun v1 v2 v3 W h1 h2 h3 => IH.out pk tk bj v1 v2 v3 W (by omega) h1 h2 h3 hbk (by omega) (by omega) (by omega) hks)
                  have hkeep := fun x => mat_keeps (M := 1048576) pk tk bj x hbk (by omega)
                  have HKEEP := Lib.hid hkeep
                  clear hw0 d0' d1' d2' g0' g1' g2' hu hu2 hkb htb hnn b1 b2 hks hpk htk hjl hjt hq hbj hbk hsz hrun hbw hj hlt hkeep
                  go_upto_region 14 with fail
                  generalize wr.alloc (.cells #[.int .i64 pk.kind, .string pk.name, .slice B1 pk.kids.length C1] 29) = wq at bx12 g0 g1 g2 y0 y1 y2 HU HU2 HBJ HBW ⊢
                  generalize wr.heap.size = g12 at bx12 ⊢
                  obtain ⟨q0, q1, q2⟩ := bx12.cells
                  clear d0 d1 d2 bx12
                  obtain ⟨r, hr⟩ : ∃ r, mat pk tk bj = r := ⟨_, rfl⟩
                  rw [hr] at HIH HRUN HKEEP
                  clear hr
                  cases r with
                  | none =>
                    obtain rfl : R = none := HRUN.out
                    (refine wp_region_held_drew (S := (fun Wq => Wq.cell? ⟨g12, 0, none⟩ = some (.int .i64 pk.kind) ∧ Wq.cell? ⟨g12, 1, none⟩ = some (.string pk.name) ∧ Wq.cell? ⟨g12, 2, none⟩ = some (.slice B1 pk.kids.length C1) ∧ Wq.cell? ⟨w.heap.size + 1, 2, none⟩ = some (.slice (some ⟨tb, ta, none⟩) ts.length d) ∧ Wq.cell? ⟨tb, ta + j * 3, none⟩ = some (.int .i64 tk.kind) ∧ Wq.cell? ⟨tb, ta + j * 3 + 1, none⟩ = some (.string tk.name) ∧ Wq.cell? ⟨tb, ta + j * 3 + 2, none⟩ = some (.slice B2 tk.kids.length C2) ∧ Below wq.heap.size wq Wq)) (by kernel_rfl) (show _ ∧ _ ∧ _ ∧ _ ∧ _ ∧ _ ∧ _ ∧ _ from ⟨q0, q1, q2, y2, g0, g1, g2, (Below.refl _ wq).drew⟩) (fun hHeld => ?_))
                    (refine tkJ 0 _ (h := ?_))
                    (refine tkJ 1 _ (h := ?_))
                    (refine tkJ 2 _ (h := ?_))
                    (refine tkJ 3 _ (h := ?_))
                    (refine tkJ 4 _ (h := ?_))
                    (refine tkJ 5 _ (h := ?_))
                    (refine tkJ 6 _ (h := ?_))
                    (refine rdJ 7 (h := fun K hK => ?_); go_simp; go_at_call 79; refine (HIH.out _ _ _ _ (HU.out.later hHeld.2.2.2.2.2.2.2) (HU2.out.later hHeld.2.2.2.2.2.2.2) (HBJ.out.later hHeld.2.2.2.2.2.2.2)).mono ?_; rintro e wz ⟨hb4, he⟩; obtain ⟨v4, rfl⟩ := (show ∃ v, e = .returned (.tuple #[v, .bool false]) from he); clear he; refine shK hK (held7 hHeld hb4) (h := fun hHeld => ?_); clear hK K)
                    (refine tkJ 8 _ (h := ?_))
                    (refine tkJ 9 _ (h := ?_))
                    (refine tkJ 10 _ (h := ?_))
                    (refine tkJ 11 _ (h := ?_))
                    (refine tkJ 12 _ (h := ?_))
                    (refine wpAnyH_done (by kernel_rfl) ?_ _)
                    have HB4 := Lib.hid (HBW.out.trans (hHeld.2.2.2.2.2.2.2.mono HBW.out.size))
                    clear hHeld q0 q1 q2 y0 y1 y2 g0 g1 g2
                    go_wp2_with fail
                    go_ret2
                    exact ⟨HB1.out.trans (HB4.out.mono HB1.out.size), _, rfl⟩
                  | some x =>
                    (refine wp_region_held_drew (S := (fun Wq => Wq.cell? ⟨g12, 0, none⟩ = some (.int .i64 pk.kind) ∧ Wq.cell? ⟨g12, 1, none⟩ = some (.string pk.name) ∧ Wq.cell? ⟨g12, 2, none⟩ = some (.slice B1 pk.kids.length C1) ∧ Wq.cell? ⟨w.heap.size + 1, 2, none⟩ = some (.slice (some ⟨tb, ta, none⟩) ts.length d) ∧ Wq.cell? ⟨tb, ta + j * 3, none⟩ = some (.int .i64 tk.kind) ∧ Wq.cell? ⟨tb, ta + j * 3 + 1, none⟩ = some (.string tk.name) ∧ Wq.cell? ⟨tb, ta + j * 3 + 2, none⟩ = some (.slice B2 tk.kids.length C2) ∧ Below wq.heap.size wq Wq)) (by kernel_rfl) (show _ ∧ _ ∧ _ ∧ _ ∧ _ ∧ _ ∧ _ ∧ _ from ⟨q0, q1, q2, y2, g0, g1, g2, (Below.refl _ wq).drew⟩) (fun hHeld => ?_))
                    (refine tkJ 0 _ (h := ?_))
                    (refine tkJ 1 _ (h := ?_))
                    (refine tkJ 2 _ (h := ?_))
                    (refine tkJ 3 _ (h := ?_))
                    (refine tkJ 4 _ (h := ?_))
                    (refine tkJ 5 _ (h := ?_))
                    (refine tkJ 6 _ (h := ?_))
                    (refine rdJ 7 (h := fun K hK => ?_); go_simp; go_at_call 79; refine (HIH.out _ _ _ _ (HU.out.later hHeld.2.2.2.2.2.2.2) (HU2.out.later hHeld.2.2.2.2.2.2.2) (HBJ.out.later hHeld.2.2.2.2.2.2.2)).mono ?_; rintro e wz ⟨hb4, he⟩; obtain ⟨v4, rfl, hv4⟩ := (show ∃ v, e = .returned (.tuple #[v, .bool true]) ∧ BindsAt wz v x from he); have HV4 := Lib.hid hv4; clear he hv4; refine shK hK (held7 hHeld hb4) (h := fun hHeld => ?_); clear hK K)
                    (refine tkJ 8 _ (h := ?_))
                    (refine tkJ 9 _ (h := ?_))
                    (refine tkJ 10 _ (h := ?_))
                    (refine tkJ 11 _ (h := ?_))
                    (refine tkJ 12 _ (h := ?_))
                    (refine wpAnyH_done (by kernel_rfl) ?_ _)
                    have HB4 := Lib.hid (HBW.out.trans (hHeld.2.2.2.2.2.2.2.mono HBW.out.size))
                    clear hHeld q0 q1 q2 y0 y1 y2 g0 g1 g2
                    go_wp2_with fail
                    go_roundw
                    case rel => exact ⟨_, _, _, _, _, _, _, ⟨j + 1, HLT.out, by go_num, x, HV4.out, (HKEEP.out x rfl).1, by have := (HKEEP.out x rfl).2; have := HSZJ.out; omega, HRUN.out, HB4.out⟩, rfl, rfl, rfl, rfl, rfl, rfl, rfl⟩
                    case measure => have := HLT.out; simp [intOf]; omega
                · obtain rfl : j = n := by omega
                  rw [List.drop_eq_nil_of_le (by rw [HNN.out]; exact Nat.le_refl _)] at hrun
                  have hrun' : R = some bj := by rw [hrun]; simp only [matAll]
                  subst hrun'
                  have hi : ¬ (j : Int) < (j : Int) := by omega
                  have HBJ := Lib.hid hbj; have HBW := Lib.hid (HB1.out.trans (hbw.mono HB1.out.size))
                  clear hrun hbj hbk hsz hbw
                  go_wp2_with fail
                  go_ret2
                  exact ⟨HBW.out, _, rfl, HBJ.out⟩
          · rw [if_pos (.inr (.inr e3))] at hR1
            subst hR1
            have hl2 : ((ks.length : Int) != (ts.length : Int)) = true := by simp; omega
            clear e3
            go_wp2_with fail
            go_ret2
            exact ⟨HB1.out, _, rfl⟩
        · rw [if_pos (.inr (.inl e2))] at hR1
          subst hR1
          have hsn := str_ne e2
          go_wp2_with fail
          go_ret2
          exact ⟨HB1.out, _, rfl⟩
      · rw [if_pos (.inl e1)] at hR1
        subst hR1
        go_wp2_with fail
        go_ret2
        exact ⟨HB1.out, _, rfl⟩
end Go.Proofs.YtihbmgkbipeakaaGreat

namespace Go.Proofs.YtihbmgkbipeakaaGreat
open Go.RowKit T

/-- These cells hold these bindings, with values in certain blocks. -/
def BCI (S : Nat → Bool) (w : World) (xs : List Value) (L : List Bd) : Prop :=
  xs.length = L.length * 4 ∧ ∀ i (h : i < L.length), ∃ A c, xs[i * 4]? = some (.string L[i].var) ∧ xs[i * 4 + 1]? = some (.int .i64 L[i].t.kind) ∧ xs[i * 4 + 2]? = some (.string L[i].t.name) ∧ xs[i * 4 + 3]? = some (.slice A L[i].t.kids.length c) ∧
    TermIn S w (.agg #[.int .i64 L[i].t.kind, .string L[i].t.name, .slice A L[i].t.kids.length c]) L[i].t ∧ L[i].var.size ≤ maxLen
theorem BCI.keep {S S' : Nat → Bool} {w w' : World} {xs : List Value} {L : List Bd} (h : BCI S w xs L) (hk : ∀ b, S b = true → b < w.heap.size → S' b = true ∧ w'.heap[b]? = w.heap[b]?) : BCI S' w' xs L :=
  ⟨h.1, fun i hi => by obtain ⟨A, c, a0, a1, a2, a3, ht, hs⟩ := h.2 i hi; exact ⟨A, c, a0, a1, a2, a3, ht.keep hk, hs⟩⟩
theorem BCI.nil (S : Nat → Bool) (w : World) : BCI S w [] [] := ⟨rfl, fun i h => by simp at h⟩
theorem BCI.bc {S : Nat → Bool} {w : World} {xs : List Value} {L : List Bd} (h : BCI S w xs L) : BC w xs L :=
  ⟨h.1, fun i hi => by obtain ⟨A, c, a0, a1, a2, a3, ht, hs⟩ := h.2 i hi; exact ⟨A, c, a0, a1, a2, a3, ht.at, hs⟩⟩
theorem BCI.push {S : Nat → Bool} {w : World} {xs : List Value} {L : List Bd} {s : ByteArray} {t : T} {A : Option Addr} {c : Nat} (h : BCI S w xs L) (ht : TermIn S w (.agg #[.int .i64 t.kind, .string t.name, .slice A t.kids.length c]) t) (hs : s.size ≤ maxLen) :
    BCI S w (xs ++ [.string s, .int .i64 t.kind, .string t.name, .slice A t.kids.length c]) (L ++ [⟨s, t⟩]) := by
  have h1 := h.1
  refine ⟨by simp [h1]; omega, fun i hi => ?_⟩
  rcases Nat.lt_or_ge i L.length with g | g
  · obtain ⟨A', c', a0, a1, a2, a3, ht', hs'⟩ := h.2 i g
    rw [List.getElem_append_left g]
    refine ⟨A', c', ?_, ?_, ?_, ?_, ht', hs'⟩
    all_goals rw [List.getElem?_append_left (by omega)]; assumption
  · obtain rfl : i = L.length := by simp at hi; omega
    have e : (L ++ [(⟨s, t⟩ : Bd)])[L.length]'hi = ⟨s, t⟩ := by simp
    rw [e]
    refine ⟨A, c, ?_, ?_, ?_, ?_, ht, hs⟩
    all_goals rw [List.getElem?_append_right (by omega), h1]; simp
/-- A row of bindings that grows. -/
def BRow (base : Nat) (w : World) (v : Value) (L : List Bd) : Prop := (v = .slice none 0 0 ∧ L = []) ∨ (0 < L.length ∧ ∃ xs, w.ownsRow base 66 4 v L.length xs ∧ BCI (but base v.ownBlock) w xs L)
theorem BRow.nil (base : Nat) (w : World) : BRow base w (.slice none 0 0) [] := .inl ⟨rfl, rfl⟩
theorem BRow.cells {base : Nat} {w : World} {v : Value} {L : List Bd} (h : BRow base w v L) : ∃ A c xs, v = .slice A L.length c ∧ w.ownsRow base 66 4 (.slice A L.length c) L.length xs ∧ BCI (but base (Value.slice A L.length c).ownBlock) w xs L := by
  rcases h with ⟨rfl, rfl⟩ | ⟨h0, xs, h1, h2⟩
  · exact ⟨none, 0, [], rfl, World.ownsRow_nil _ _ _ _, BCI.nil _ _⟩
  · obtain ⟨g, cap, rfl, _⟩ := h1.form h0
    exact ⟨_, _, xs, rfl, h1, h2⟩
theorem BRow.binds {base : Nat} {w : World} {v : Value} {L : List Bd} (h : BRow base w v L) : BindsAt w v L := by
  rcases h with ⟨rfl, rfl⟩ | ⟨h0, xs, h1, h2⟩
  · exact BindsAt.nil w
  · obtain ⟨g, cap, rfl, _⟩ := h1.form h0
    exact BindsAt.of_own h1 rfl h2.bc h0
theorem BRow.keep {base : Nat} {w w' : World} {v : Value} {L : List Bd} (h : BRow base w v L) (hk : ∀ b, base ≤ b → b < w.heap.size → w'.heap[b]? = w.heap[b]?) : BRow base w' v L := by
  rcases h with h | ⟨h0, xs, h1, h2⟩
  · exact .inl h
  · exact .inr ⟨h0, xs, own_keepS h1 fun b e hl => hk b (h1.lt b e).1 hl, h2.keep fun b hb hl => ⟨hb, hk b (but_iff.1 hb).1 hl⟩⟩
/-- Behind an append of one. -/
theorem BRow.push {base : Nat} {w w3 w4 : World} {L : List Bd} {s : ByteArray} {t : T} {A A3 : Option Addr} {c c3 n g cap : Nat} {xs : List Value} {o : Obj} (hown0 : w.ownsRow base 66 4 (.slice A n c) n xs) (hn : n = L.length) (hc : BCI (but base (Value.slice A n c).ownBlock) w xs L) (hs : s.size ≤ maxLen)
    (hk : ∀ b, base ≤ b → b < w.heap.size → w3.heap[b]? = w.heap[b]?) (hsz : w.heap.size ≤ w3.heap.size) (hb : base ≤ w.heap.size) (ht : TermIn (from_ w.heap.size) w3 (.agg #[.int .i64 t.kind, .string t.name, .slice A3 t.kids.length c3]) t)
    (hown : w4.ownsRow base 66 4 (.slice (some ⟨g, 0, none⟩) (n + 1) cap) (n + 1) (xs ++ [.string s, .int .i64 t.kind, .string t.name, .slice A3 t.kids.length c3])) (hg : (w3.alloc o).grownBy w4 (Value.slice A n c).ownBlock) (hat : (Value.slice A n c).ownBlock = some g ∨ g = (w3.alloc o).heap.size) :
    BRow base w4 (.slice (some ⟨g, 0, none⟩) (n + 1) cap) (L ++ [⟨s, t⟩]) := by
  have hlt := hown0.lt
  have hsa := size_alloc1 w3 o
  have hgf : ∀ b, base ≤ b → b < w3.heap.size → (Value.slice A n c).ownBlock ≠ some b → but base (Value.slice (some ⟨g, 0, none⟩) (n + 1) cap).ownBlock b = true ∧ w4.heap[b]? = w3.heap[b]? := fun b h1 h2 h3 => by
    refine ⟨but_iff.2 ⟨h1, fun e => ?_⟩, (hg.block b (by omega) (fun e => h3 e.symm)).trans (Below.heap_alloc w3 o b h2)⟩
    have e' : g = b := Option.some.inj e
    rcases hat with r | r
    · exact h3 (by rw [r, e'])
    · omega
  have h1 : BCI (but base (Value.slice (some ⟨g, 0, none⟩) (n + 1) cap).ownBlock) w4 xs L := hc.keep fun b hbb hl => by
    obtain ⟨a1, a2⟩ := but_iff.1 hbb
    obtain ⟨h1, h2⟩ := hgf b a1 (by omega) a2
    exact ⟨h1, h2.trans (hk b a1 hl)⟩
  have h2 : TermIn (but base (Value.slice (some ⟨g, 0, none⟩) (n + 1) cap).ownBlock) w4 (.agg #[.int .i64 t.kind, .string t.name, .slice A3 t.kids.length c3]) t := ht.keep fun b hbb hl => by
    have a1 := of_decide_eq_true hbb
    exact hgf b (by omega) hl (fun e => by have := (hlt b e).2; omega)
  have hln : (L ++ [(⟨s, t⟩ : Bd)]).length = n + 1 := by simp [hn]
  refine .inr ⟨by omega, _, ?_, h1.push h2 hs⟩
  rw [hln]; exact hown
end Go.Proofs.YtihbmgkbipeakaaGreat
