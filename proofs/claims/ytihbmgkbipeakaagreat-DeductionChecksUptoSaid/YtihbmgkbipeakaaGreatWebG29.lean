/- Several texts in one: WebCg. -/
import Derived.Test.YtihbmgkbipeakaaGreatWebG28
import Derived.Test.YtihbmgkbipeakaaGreatWebG27
import Derived.Test.YtihbmgkbipeakaaGreatWebG11
import Derived.Test.YtihbmgkbipeakaaGreatWebG0
import Derived.Deep.DeepCutAuto
namespace Go.Proofs.YtihbmgkbipeakaaGreat
open Go.RowKit

theorem KnownAt.get0 {w : World} {A : Option Addr} {c : Nat} {a : T} {r : List T} (h : KnownAt w A c (a :: r)) : ∃ b off A' c', A = some ⟨b, off, none⟩ ∧ w.cell? ⟨b, off, none⟩ = some (.int .i64 a.kind) ∧ w.cell? ⟨b, off + 1, none⟩ = some (.string a.name) ∧ w.cell? ⟨b, off + 2, none⟩ = some (.slice A' a.kids.length c') ∧
    TermAt w (.agg #[.int .i64 a.kind, .string a.name, .slice A' a.kids.length c']) a := by
  obtain ⟨b, off, A', c', e, h0, h1, h2, h3⟩ := h.get (i := 0) (by simp)
  simp only [Nat.zero_mul, Nat.add_zero] at h0 h1 h2
  exact ⟨b, off, A', c', e, h0, h1, h2, h3⟩
theorem KnownAt.get1 {w : World} {A : Option Addr} {c b off : Nat} {a x : T} {r : List T} (h : KnownAt w A c (a :: x :: r)) (hA : A = some ⟨b, off, none⟩) : ∃ A' c', w.cell? ⟨b, off + 3, none⟩ = some (.int .i64 x.kind) ∧ w.cell? ⟨b, off + 3 + 1, none⟩ = some (.string x.name) ∧ w.cell? ⟨b, off + 3 + 2, none⟩ = some (.slice A' x.kids.length c') ∧
    TermAt w (.agg #[.int .i64 x.kind, .string x.name, .slice A' x.kids.length c']) x := by
  obtain ⟨b', off', A', c', e, h0, h1, h2, h3⟩ := h.get (i := 1) (by simp)
  subst hA
  injection e with e; injection e with e e'; subst e; subst e'
  simp only [Nat.one_mul] at h0 h1 h2
  exact ⟨A', c', h0, h1, h2, h3⟩
/-- What right asks of memory. -/
theorem kid0_at {w : World} {a : T} {A : Option Addr} {c : Nat} (h : TermAt w (.agg #[.int .i64 a.kind, .string a.name, .slice A a.kids.length c]) a) (hn : 0 < a.kids.length) : ∃ b off A' c', A = some ⟨b, off, none⟩ ∧ w.cell? ⟨b, off, none⟩ = some (.int .i64 (a.kid 0).kind) ∧ w.cell? ⟨b, off + 1, none⟩ = some (.string (a.kid 0).name) ∧
    w.cell? ⟨b, off + 2, none⟩ = some (.slice A' (a.kid 0).kids.length c') ∧ TermAt w (.agg #[.int .i64 (a.kid 0).kind, .string (a.kid 0).name, .slice A' (a.kid 0).kids.length c']) (a.kid 0) := by
  obtain ⟨b, off, A', c', e, _, h0, h1, h2, h3⟩ := h.inAll.kid0 hn
  exact ⟨b, off, A', c', e, h0, h1, h2, h3.at⟩
/-- What a region that makes the longer power leaves. -/
def LongAt (w : World) (v : Value) (M : T) (W : World) : Prop := ∃ gx A8 c8, v = .pointer (some ⟨gx, 0, none⟩) ∧ W.cell? ⟨gx, 0, none⟩ = some (.int .i64 M.kind) ∧ W.cell? ⟨gx, 1, none⟩ = some (.string M.name) ∧ W.cell? ⟨gx, 2, none⟩ = some (.slice A8 M.kids.length c8) ∧ TermAt W (.agg #[.int .i64 M.kind, .string M.name, .slice A8 M.kids.length c8]) M ∧ Below w.heap.size w W

/-- Another block than the row's. -/
theorem own_ne {w : World} {base n c size g gW : Nat} {e : TypeId} {A : Option Addr} {xs : List Value} {row : Option Nat} (h : w.ownsRow base e size (.slice A n c) n xs) (hn : 0 < n) (hat : A.map (·.block) = row ∨ A.map (·.block) = some gW) (h0 : ∀ x, row = some x → x ≠ g) (hW : gW ≠ g) : ∀ x, (Value.slice A n c).ownBlock = some x → x ≠ g := by
  obtain ⟨b, cap, ev, _⟩ := h.form hn
  injection ev with e1 _ _
  subst e1
  intro x hx
  have hbx : b = x := Option.some.inj hx
  subst hbx
  rcases hat with h1 | h1
  · exact h0 b h1.symm
  · have : b = gW := Option.some.inj h1
    rw [this]; exact hW
/-- How far the longer power has come: a row, a slice of one term, a new block. -/
structure LS (wq : World) (cl : List Value) (W : World) (V : Value) (n : Nat) (xs : List Value) (g9 g12 : Option Nat) : Prop where
  hB : Below wq.heap.size wq W
  hO : W.ownsRow wq.heap.size 29 3 V n xs
  h9 : ∀ g, g9 = some g → Src W 3 (some ⟨g, 0, none⟩) 1 cl ∧ g < W.heap.size ∧ ∀ x, V.ownBlock = some x → x ≠ g
  h12 : ∀ g, g12 = some g → Box W g (.int .i64 0) (.string ⟨#[]⟩) (.slice none 0 0) ∧ wq.heap.size ≤ g ∧ ∀ x, V.ownBlock = some x → x ≠ g
namespace LS
variable {wq W W' : World} {cl xs : List Value} {V : Value} {n : Nat} {g9 g12 : Option Nat}
theorem start (wq : World) (cl : List Value) : LS wq cl wq (.slice none 0 0) 0 [] none none := ⟨Below.refl _ _, World.ownsRow_nil _ _ _ _, fun _ h => (by cases h), fun _ h => (by cases h)⟩
theorem s0 (h : LS wq cl W (.slice none 0 0) 0 [] g9 g12) : LS wq cl (W.alloc (.cells #[] 29)) (.slice (some ⟨W.heap.size, 0, none⟩) 0 0) 0 [] g9 g12 := by
  have hb := below_alloc1 W (.cells #[] 29)
  refine ⟨h.hB.trans (hb.mono h.hB.size), World.ownsRow_made (size := 3) (e := 29) W #[] 0 (base := wq.heap.size) h.hB.size (Nat.zero_le _) rfl, fun g e => ?_, fun g e => ?_⟩
  · obtain ⟨a, b, _⟩ := h.h9 g e
    exact ⟨a.later hb, Nat.lt_of_lt_of_le b hb.size, fun x ex => by have : W.heap.size = x := Option.some.inj ex; omega⟩
  · obtain ⟨a, b, _⟩ := h.h12 g e
    exact ⟨a.later hb, b, fun x ex => by have : W.heap.size = x := Option.some.inj ex; have := a.lt; omega⟩
theorem s9 {o : Array Value} (h : LS wq o.toList W V n xs none g12) (ho : o.size = 3) : LS wq o.toList (W.alloc (.cells o 29)) V n xs (some W.heap.size) g12 := by
  have hb := below_alloc1 W (.cells o 29)
  refine ⟨h.hB.trans (hb.mono h.hB.size), own_later h.hO hb, fun g e => ?_, fun g e => ?_⟩
  · have e' : W.heap.size = g := Option.some.inj e
    subst e'
    exact ⟨by have := Src.newsU W o.toList 29 3 (by simpa using ho); simpa using this, by rw [size_alloc1]; omega, fun x ex => by have := (h.hO.lt x ex).2; omega⟩
  · obtain ⟨a, b, c⟩ := h.h12 g e
    exact ⟨a.later hb, b, c⟩
theorem s12 (h : LS wq cl W V n xs g9 none) : LS wq cl (W.alloc (.cells #[.int .i64 0, .string ⟨#[]⟩, .slice none 0 0] 29)) V n xs g9 (some W.heap.size) := by
  have hb := below_alloc1 W (.cells #[.int .i64 0, .string ⟨#[]⟩, .slice none 0 0] 29)
  refine ⟨h.hB.trans (hb.mono h.hB.size), own_later h.hO hb, fun g e => ?_, fun g e => ?_⟩
  · obtain ⟨a, b, c⟩ := h.h9 g e
    exact ⟨a.later hb, Nat.lt_of_lt_of_le b hb.size, c⟩
  · have e' : W.heap.size = g := Option.some.inj e
    subst e'
    exact ⟨Box.new W _ _ _, h.hB.size, fun x ex => by have := (h.hO.lt x ex).2; omega⟩
theorem grow {A : Option Addr} {c n' : Nat} {xs' : List Value} (h : LS wq cl W V n xs g9 g12) (hO : W'.ownsRow wq.heap.size 29 3 (.slice A n' c) n' xs') (hg : W.grownBy W' V.ownBlock) (hat : A.map (·.block) = V.ownBlock ∨ A.map (·.block) = some W.heap.size) (hn : 0 < n') : LS wq cl W' (.slice A n' c) n' xs' g9 g12 := by
  refine ⟨h.hB.grown hg h.hB.size (fun b hb => (h.hO.lt b hb).1), hO, fun g e => ?_, fun g e => ?_⟩
  · obtain ⟨a, b, c⟩ := h.h9 g e
    exact ⟨a.grown hg (.inl (fun ex => c g ex.symm rfl)), Nat.lt_of_lt_of_le b hg.size, own_ne hO hn hat c (show W.heap.size ≠ g by omega)⟩
  · obtain ⟨a, b, c⟩ := h.h12 g e
    exact ⟨a.grown hg (fun ex => c g ex rfl), b, own_ne hO hn hat c (show W.heap.size ≠ g by have := a.lt; omega)⟩
end LS
theorem long_fin {w1 wq W : World} {kb : Int} {g c8 : Nat} {A8 A1 : Option Addr} {c1 : Nat} {xsA : List Value} {a bb : T} (hkb : bb.kind = kb) (hq : Below w1.heap.size w1 wq) (hB : Below wq.heap.size wq W) (hO : W.ownsRow wq.heap.size 29 3 (.slice A8 (a.kids.length + 1) c8) (a.kids.length + 1) (xsA ++ [.int .i64 kb, .string bb.name, .slice A1 bb.kids.length c1]))
    (hX : Box W g (.int .i64 0) (.string ⟨#[]⟩) (.slice none 0 0)) (hn : ∀ x, (Value.slice A8 (a.kids.length + 1) c8).ownBlock = some x → x ≠ g) (hct : CT (fun _ => true) wq xsA a.kids) (hTB : TermAt wq (.agg #[.int .i64 kb, .string bb.name, .slice A1 bb.kids.length c1]) bb) (hg : wq.heap.size ≤ g) :
    LongAt w1 (.pointer (some ⟨g, 0, none⟩)) (.mk 7 ⟨#[]⟩ (a.kids ++ [bb])) (((W.setCell ⟨g, 0, none⟩ (.int .i64 7)).setCell ⟨g, 1, none⟩ (.string ⟨#[]⟩)).setCell ⟨g, 2, none⟩ (.slice A8 (a.kids.length + 1) c8)) := by
  subst hkb
  have hO' := own_keep hO (w' := ((W.setCell ⟨g, 0, none⟩ (.int .i64 7)).setCell ⟨g, 1, none⟩ (.string ⟨#[]⟩)).setCell ⟨g, 2, none⟩ (.slice A8 (a.kids.length + 1) c8)) (fun b e _ => set3_other W g _ _ _ b (hn b e))
  have hB' : Below wq.heap.size wq (((W.setCell ⟨g, 0, none⟩ (.int .i64 7)).setCell ⟨g, 1, none⟩ (.string ⟨#[]⟩)).setCell ⟨g, 2, none⟩ (.slice A8 (a.kids.length + 1) c8)) := ((hB.setCell hg _).setCell hg _).setCell hg _
  have hpow := pow_at hO' hB' (hct.append (CT.of_term1 hTB))
  obtain ⟨h0, h1, h2⟩ := (box_set3 hX (.int .i64 7) (.string ⟨#[]⟩) (.slice A8 (a.kids.length + 1) c8)).cells
  have e : (T.mk 7 ⟨#[]⟩ (a.kids ++ [bb])).kids.length = a.kids.length + 1 := by simp [T.kids]
  exact ⟨g, A8, c8, rfl, h0, h1, by rw [e]; exact h2, by rw [e]; exact hpow, hq.trans (hB'.mono hq.size)⟩

theorem long_S {w1 wq W : World} {g b o0 o1 o2 o3 : Nat} {v0 v1 v2 v3 x y z : Value} (h : wq.cell? ⟨b, o0, none⟩ = some v0 ∧ wq.cell? ⟨b, o1, none⟩ = some v1 ∧ wq.cell? ⟨b, o2, none⟩ = some v2 ∧ wq.cell? ⟨b, o3, none⟩ = some v3 ∧ Below w1.heap.size w1 wq) (hb : Below wq.heap.size wq W) (_hX : Box W g (.int .i64 0) (.string ⟨#[]⟩) (.slice none 0 0)) (hg : wq.heap.size ≤ g) (hl : b < w1.heap.size) :
    (((W.setCell ⟨g, 0, none⟩ x).setCell ⟨g, 1, none⟩ y).setCell ⟨g, 2, none⟩ z).cell? ⟨b, o0, none⟩ = some v0 ∧ (((W.setCell ⟨g, 0, none⟩ x).setCell ⟨g, 1, none⟩ y).setCell ⟨g, 2, none⟩ z).cell? ⟨b, o1, none⟩ = some v1 ∧ (((W.setCell ⟨g, 0, none⟩ x).setCell ⟨g, 1, none⟩ y).setCell ⟨g, 2, none⟩ z).cell? ⟨b, o2, none⟩ = some v2 ∧
      (((W.setCell ⟨g, 0, none⟩ x).setCell ⟨g, 1, none⟩ y).setCell ⟨g, 2, none⟩ z).cell? ⟨b, o3, none⟩ = some v3 ∧ Below w1.heap.size w1 (((W.setCell ⟨g, 0, none⟩ x).setCell ⟨g, 1, none⟩ y).setCell ⟨g, 2, none⟩ z) := by
  obtain ⟨h0, h1, h2, h3, h4⟩ := held4 h hb
  have hq := h.2.2.2.2.size
  have hne : b ≠ g := by omega
  have hle : w1.heap.size ≤ g := by omega
  exact ⟨cell_set3 x y z hne h0, cell_set3 x y z hne h1, cell_set3 x y z hne h2, cell_set3 x y z hne h3, ((h4.setCell hle x).setCell hle y).setCell hle z⟩

set_option maxRecDepth 100000 in
set_option maxHeartbeats 16000000 in
theorem rrightT {L0 : List T} {Ak A : Option Addr} {ck c : Nat} (t : T) (how : Int) (xs : List T) (vt : Value) (w : World) (hK : KnownAt w Ak ck L0) (hKb : ∀ x ∈ L0, x.bulk ≤ 1048576) (ht : TermAt w vt t) (hx : KnownAt w A c xs) (hut : t.use = true) (hxu : ∀ a ∈ xs, a.use = true) (hn : needsI how = (xs.length : Int)) :
    Calls Tryz.prog 43 #[.slice Ak L0.length ck, .int .i64 how, vt, .slice A xs.length c] w fun e w' => e = .returned (.bool (rrightB (cnt L0) how t xs)) ∧ Below w.heap.size w w' := by
  obtain ⟨i0, hi0, hz0, hz1, hz2⟩ := info_parts Tryz.infoT
  obtain ⟨At, ct, rfl⟩ := ht.inAll.view
  have htb := use_bulk hut
  have hw := below_alloc1 w (.cells #[.int .i64 t.kind, .string t.name, .slice At t.kids.length ct] 29)
  have bx := Box.new w (.int .i64 t.kind) (.string t.name) (.slice At t.kids.length ct)
  have HT := Lib.hid (ht.later hw); have HW := Lib.hid hw; have HK := Lib.hid (hK.later hw); have HX := Lib.hid (hx.later hw)
  have HKB := Lib.hid hKb
  have HBA := Lib.hid (show T.bulkAll xs ≤ 1048000 by
    have hl : xs.length ≤ 2 := by
      have : needsI how ≤ 2 := by
        unfold needsI
        split
        · decide
        · split
          · decide
          · split <;> decide
      omega
    match xs, hl, hxu with
    | [], _, _ => simp [T.bulkAll]
    | [a], _, h => have := use_bulk (h a (by simp)); simp only [T.bulkAll]; omega
    | [a, b], _, h => have := use_bulk (h a (by simp)); have := use_bulk (h b (by simp)); simp only [T.bulkAll]; omega)
  have HMD := Lib.hid (fun k v W (hk : -9223372036854775808 ≤ k ∧ k ≤ 9223372036854775807) (h1 : TermAt W v t) (h2 : KnownAt W A c xs) => rmadeT t k xs A c v W h1 h2 (by omega) HBA.out hk)
  obtain ⟨R, hR⟩ : ∃ R, rrightB (cnt L0) how t xs = R := ⟨_, rfl⟩
  rw [hR]
  have HR := Lib.hid hR
  clear hK hKb ht hx hw hR
  go_enter Tryz.func43, Tryz.ntmps43
  go_upto_region 1 with fail
  generalize w.alloc (.cells #[.int .i64 t.kind, .string t.name, .slice At t.kids.length ct] 29) = w1 at bx HT HW HK HX ⊢
  obtain ⟨t0, t1, t2⟩ := bx.cells
  have BX := Lib.hid bx
  clear bx
  have hcase : how = 1 ∨ (how = 2 ∨ how = 3 ∨ how = 5 ∨ how = 7 ∨ how = 11) ∨ (how = 4 ∨ how = 6 ∨ how = 8 ∨ how = 9 ∨ how = 10) := by
    by_cases h1 : how = 1
    · exact .inl h1
    · by_cases h2 : how = 2 ∨ how = 3 ∨ how = 5 ∨ how = 7 ∨ how = 11
      · exact .inr (.inl h2)
      · by_cases h3 : how = 4 ∨ how = 6 ∨ how = 8 ∨ how = 9 ∨ how = 10
        · exact .inr (.inr h3)
        · exfalso
          unfold needsI at hn
          rw [if_neg h1, if_neg h2, if_neg h3] at hn
          omega
  rcases hcase with h1 | h1 | h1
  · subst h1
    have e : xs = [] := List.eq_nil_of_length_eq_zero (by simp [needsI] at hn; omega)
    subst e
    have HE := Lib.hid (show R = hasL (rfirst (cnt L0)) t from HR.out.symm)
    have HFB := Lib.hid (show ∀ x ∈ rfirst (cnt L0), x.bulk ≤ 1048576 from fun x hx => HKB.out x (mem_of_cnt x (rfirst_mem.1 hx)))
    have HF := Lib.hid (fun W (h : KnownAt W Ak ck L0) => rfirstT W h HKB.out)
    have HH := Lib.hid (fun W A' c' v (h : KnownAt W A' c' (rfirst (cnt L0))) (h2 : TermAt W v t) => rhasT W h h2 HFB.out (by omega))
    rw [← HE.out] at HH
    generalize rfirst (cnt L0) = RF at HF HH
    clear HMD HKB HFB
    go_upto_region 3 with fail
    (refine wp_region_held_drew (S := (fun Wq => Wq.cell? ⟨w.heap.size, 0, none⟩ = some (.int .i64 t.kind) ∧ Wq.cell? ⟨w.heap.size, 1, none⟩ = some (.string t.name) ∧ Wq.cell? ⟨w.heap.size, 2, none⟩ = some (.slice At t.kids.length ct) ∧ Below w1.heap.size w1 Wq)) (by kernel_rfl) (show _ ∧ _ ∧ _ ∧ _ from ⟨t0, t1, t2, (Below.refl _ w1).drew⟩) (fun hHeld => ?_))
    (refine tkJ 0 _ (h := ?_))
    (refine tkJ 2 _ (h := ?_))
    (refine rdJ 1 (h := fun K hK => ?_); go_simp; go_at_call 44; refine (HF.out _ (HK.out.later hHeld.2.2.2)).mono ?_; rintro e wz ⟨A6, c6, rfl, hk6, hb4⟩; refine shK hK (held3 hHeld hb4) (h := fun hHeld => ?_); clear hK K)
    (refine rdJ 3 (h := fun K hK => ?_); go_simp; go_at_call 90; refine (HH.out _ _ _ _ hk6 (HT.out.later hHeld.2.2.2)).mono ?_; rintro e wz2 ⟨rfl, hb4⟩; refine shK hK (held3 hHeld hb4) (h := fun hHeld => ?_); clear hK K)
    (refine tkJ 4 _ (h := ?_))
    (refine wpAnyH_done (by kernel_rfl) ?_ _)
    go_wp2_with fail
    go_ret
    exact ⟨rfl, HW.out.trans (hHeld.2.2.2.mono HW.out.size)⟩
  · have hl1 : xs.length = 1 := by
      have : needsI how = 1 := by unfold needsI; rw [if_neg (by omega), if_pos h1]
      omega
    obtain ⟨a, rfl⟩ : ∃ a, xs = [a] := by
      match xs, hl1 with
      | [a], _ => exact ⟨a, rfl⟩
    have hua := hxu a (by simp)
    have hab := use_bulk hua
    obtain ⟨b, off, A0, c0, rfl, d0, d1, d2, hat⟩ := HX.out.get0
    have HA := Lib.hid hat
    have h01 : (0 : Int) < (([a].length : Nat) : Int) := by simp
    clear hn hl1 hat
    rcases h1 with rfl | rfl | rfl | rfl | rfl
    · skip
      have HE := Lib.hid (show R = kidB t a 3 0 from HR.out.symm)
      have HC := Lib.hid (fun W v v' (h1 : TermAt W v t) (h2 : TermAt W v' a) => rkidT t a 3 0 v v' W h1 h2 (by omega) (by omega) (fun h => by have := two_len hua (.inl h); omega))
      rw [← HE.out] at HC
      clear HMD HK HKB
      go_upto_region 5 with fail
      (refine wp_region_held_drew (S := (fun Wq => Wq.cell? ⟨w.heap.size, 0, none⟩ = some (.int .i64 t.kind) ∧ Wq.cell? ⟨w.heap.size, 1, none⟩ = some (.string t.name) ∧ Wq.cell? ⟨w.heap.size, 2, none⟩ = some (.slice At t.kids.length ct) ∧ Wq.cell? ⟨b, off, none⟩ = some (.int .i64 a.kind) ∧ Wq.cell? ⟨b, off + 1, none⟩ = some (.string a.name) ∧ Wq.cell? ⟨b, off + 2, none⟩ = some (.slice A0 a.kids.length c0) ∧ Below w1.heap.size w1 Wq)) (by kernel_rfl) (show _ ∧ _ ∧ _ ∧ _ ∧ _ ∧ _ ∧ _ from ⟨t0, t1, t2, d0, d1, d2, (Below.refl _ w1).drew⟩) (fun hHeld => ?_))
      (refine tkJ 0 _ (h := ?_))
      (refine tkJ 1 _ (h := ?_))
      (refine tkJ 2 _ (h := ?_))
      (refine tkJ 3 _ (h := ?_))
      (refine rdJ 4 (h := fun K hK => ?_); go_simp; go_at_call 91; refine (HC.out _ _ _ (HT.out.later hHeld.2.2.2.2.2.2) (HA.out.later hHeld.2.2.2.2.2.2)).mono ?_; rintro e wz ⟨rfl, hb4⟩; refine shK hK (held6 hHeld hb4) (h := fun hHeld => ?_); clear hK K)
      (refine tkJ 5 _ (h := ?_))
      (refine wpAnyH_done (by kernel_rfl) ?_ _)
      go_wp2_with fail
      go_ret
      exact ⟨rfl, HW.out.trans (hHeld.2.2.2.2.2.2.mono HW.out.size)⟩
    · skip
      have HE := Lib.hid (show R = kidB t a 3 1 from HR.out.symm)
      have HC := Lib.hid (fun W v v' (h1 : TermAt W v t) (h2 : TermAt W v' a) => rkidT t a 3 1 v v' W h1 h2 (by omega) (by omega) (fun h => by have := two_len hua (.inl h); omega))
      rw [← HE.out] at HC
      clear HMD HK HKB
      go_upto_region 7 with fail
      (refine wp_region_held_drew (S := (fun Wq => Wq.cell? ⟨w.heap.size, 0, none⟩ = some (.int .i64 t.kind) ∧ Wq.cell? ⟨w.heap.size, 1, none⟩ = some (.string t.name) ∧ Wq.cell? ⟨w.heap.size, 2, none⟩ = some (.slice At t.kids.length ct) ∧ Wq.cell? ⟨b, off, none⟩ = some (.int .i64 a.kind) ∧ Wq.cell? ⟨b, off + 1, none⟩ = some (.string a.name) ∧ Wq.cell? ⟨b, off + 2, none⟩ = some (.slice A0 a.kids.length c0) ∧ Below w1.heap.size w1 Wq)) (by kernel_rfl) (show _ ∧ _ ∧ _ ∧ _ ∧ _ ∧ _ ∧ _ from ⟨t0, t1, t2, d0, d1, d2, (Below.refl _ w1).drew⟩) (fun hHeld => ?_))
      (refine tkJ 0 _ (h := ?_))
      (refine tkJ 1 _ (h := ?_))
      (refine tkJ 2 _ (h := ?_))
      (refine tkJ 3 _ (h := ?_))
      (refine rdJ 4 (h := fun K hK => ?_); go_simp; go_at_call 91; refine (HC.out _ _ _ (HT.out.later hHeld.2.2.2.2.2.2) (HA.out.later hHeld.2.2.2.2.2.2)).mono ?_; rintro e wz ⟨rfl, hb4⟩; refine shK hK (held6 hHeld hb4) (h := fun hHeld => ?_); clear hK K)
      (refine tkJ 5 _ (h := ?_))
      (refine wpAnyH_done (by kernel_rfl) ?_ _)
      go_wp2_with fail
      go_ret
      exact ⟨rfl, HW.out.trans (hHeld.2.2.2.2.2.2.mono HW.out.size)⟩
    · skip
      have HE := Lib.hid (show R = kidB t a 6 1 from HR.out.symm)
      have HC := Lib.hid (fun W v v' (h1 : TermAt W v t) (h2 : TermAt W v' a) => rkidT t a 6 1 v v' W h1 h2 (by omega) (by omega) (fun h => by have := two_len hua (.inr (.inr h)); omega))
      rw [← HE.out] at HC
      clear HMD HK HKB
      go_upto_region 9 with fail
      (refine wp_region_held_drew (S := (fun Wq => Wq.cell? ⟨w.heap.size, 0, none⟩ = some (.int .i64 t.kind) ∧ Wq.cell? ⟨w.heap.size, 1, none⟩ = some (.string t.name) ∧ Wq.cell? ⟨w.heap.size, 2, none⟩ = some (.slice At t.kids.length ct) ∧ Wq.cell? ⟨b, off, none⟩ = some (.int .i64 a.kind) ∧ Wq.cell? ⟨b, off + 1, none⟩ = some (.string a.name) ∧ Wq.cell? ⟨b, off + 2, none⟩ = some (.slice A0 a.kids.length c0) ∧ Below w1.heap.size w1 Wq)) (by kernel_rfl) (show _ ∧ _ ∧ _ ∧ _ ∧ _ ∧ _ ∧ _ from ⟨t0, t1, t2, d0, d1, d2, (Below.refl _ w1).drew⟩) (fun hHeld => ?_))
      (refine tkJ 0 _ (h := ?_))
      (refine tkJ 1 _ (h := ?_))
      (refine tkJ 2 _ (h := ?_))
      (refine tkJ 3 _ (h := ?_))
      (refine rdJ 4 (h := fun K hK => ?_); go_simp; go_at_call 91; refine (HC.out _ _ _ (HT.out.later hHeld.2.2.2.2.2.2) (HA.out.later hHeld.2.2.2.2.2.2)).mono ?_; rintro e wz ⟨rfl, hb4⟩; refine shK hK (held6 hHeld hb4) (h := fun hHeld => ?_); clear hK K)
      (refine tkJ 5 _ (h := ?_))
      (refine wpAnyH_done (by kernel_rfl) ?_ _)
      go_wp2_with fail
      go_ret
      exact ⟨rfl, HW.out.trans (hHeld.2.2.2.2.2.2.mono HW.out.size)⟩
    · skip
      have HE := Lib.hid (show madeB t 4 [a] = R from HR.out)
      have HC := Lib.hid (HMD.out 4 _ _ (by decide) HT.out HX.out)
      clear HMD HK HKB
      go_wp2_with fail
      refine HC.out.mono ?_; rintro e wz ⟨rfl, hb4⟩
      have HB4 := Lib.hid (HW.out.trans (hb4.mono HW.out.size))
      clear hb4
      go_wp2_with fail
      go_ret
      exact ⟨ret_bool HE.out, HB4.out⟩
    · have HE := Lib.hid (show (decide (a.kind = 1) && madeB t 7 [a]) = R from HR.out)
      have HC := Lib.hid (HMD.out 7 _ _ (by decide) HT.out HX.out)
      obtain ⟨ka, hka⟩ : ∃ k, a.kind = k := ⟨_, rfl⟩
      have HKA := Lib.hid hka
      rw [hka] at d0 HE
      clear HMD HK HKB hka
      by_cases hk1 : ka = 1
      · subst hk1
        go_wp2_with fail
        refine HC.out.mono ?_; rintro e wz ⟨rfl, hb4⟩
        have HB4 := Lib.hid (HW.out.trans (hb4.mono HW.out.size))
        clear hb4
        go_wp2_with fail
        go_ret
        exact ⟨ret_bool (by rw [← HE.out]; rfl), HB4.out⟩
      · have hk1' : (ka == 1) = false := beq_eq_false_iff_ne.2 hk1
        have HE2 := Lib.hid (show R = false by rw [← HE.out, decide_eq_false hk1]; rfl)
        clear HE
        go_wp2_with fail
        go_ret
        exact ⟨ret_bool HE2.out.symm, HW.out⟩
  · have hl2 : xs.length = 2 := by
      have : needsI how = 2 := by unfold needsI; rw [if_neg (by omega), if_neg (by omega), if_pos h1]
      omega
    obtain ⟨a, bb, rfl⟩ : ∃ a bb, xs = [a, bb] := by
      match xs, hl2 with
      | [a, bb], _ => exact ⟨a, bb, rfl⟩
    have hua := hxu a (by simp)
    have hab := use_bulk hua
    have hub := hxu bb (by simp)
    have hbb := use_bulk hub
    obtain ⟨b, off, A0, c0, hAe, d0, d1, d2, hat⟩ := HX.out.get0
    obtain ⟨A1, c1, f0, f1, f2, hbt⟩ := HX.out.get1 hAe
    subst hAe
    have HA := Lib.hid hat; have HB := Lib.hid hbt
    have h01 : (0 : Int) < (([a, bb].length : Nat) : Int) := by simp
    have h02 : (1 : Int) < (([a, bb].length : Nat) : Int) := by simp
    clear hn hl2 hat hbt
    rcases h1 with rfl | rfl | rfl | rfl | rfl
    · have HE := Lib.hid (show (kidB t a 5 1 && sameB (a.kid 0) bb) = R from HR.out)
      have HC := Lib.hid (fun W v v' (h1 : TermAt W v t) (h2 : TermAt W v' a) => rkidT t a 5 1 v v' W h1 h2 (by omega) (by omega) (fun h => by have := two_len hua (.inr (.inl h)); omega))
      obtain ⟨q, hq⟩ : ∃ q, kidB t a 5 1 = q := ⟨_, rfl⟩
      rw [hq] at HE HC
      clear HMD HK HKB
      cases q with
      | false =>
        have HE2 := Lib.hid (show R = false by rw [← HE.out]; rfl)
        clear HE hq
        go_upto_region 11 with fail
        (refine wp_region_held_drew (S := (fun Wq => Wq.cell? ⟨w.heap.size, 0, none⟩ = some (.int .i64 t.kind) ∧ Wq.cell? ⟨w.heap.size, 1, none⟩ = some (.string t.name) ∧ Wq.cell? ⟨w.heap.size, 2, none⟩ = some (.slice At t.kids.length ct) ∧ Wq.cell? ⟨b, off, none⟩ = some (.int .i64 a.kind) ∧ Wq.cell? ⟨b, off + 1, none⟩ = some (.string a.name) ∧ Wq.cell? ⟨b, off + 2, none⟩ = some (.slice A0 a.kids.length c0) ∧ Below w1.heap.size w1 Wq)) (by kernel_rfl) (show _ ∧ _ ∧ _ ∧ _ ∧ _ ∧ _ ∧ _ from ⟨t0, t1, t2, d0, d1, d2, (Below.refl _ w1).drew⟩) (fun hHeld => ?_))
        (refine tkJ 0 _ (h := ?_))
        (refine tkJ 1 _ (h := ?_))
        (refine tkJ 2 _ (h := ?_))
        (refine tkJ 3 _ (h := ?_))
        (refine rdJ 4 (h := fun K hK => ?_); go_simp; go_at_call 91; refine (HC.out _ _ _ (HT.out.later hHeld.2.2.2.2.2.2) (HA.out.later hHeld.2.2.2.2.2.2)).mono ?_; rintro e wz ⟨rfl, hb4⟩; refine shK hK (held6 hHeld hb4) (h := fun hHeld => ?_); clear hK K)
        (refine tkJ 5 _ (h := ?_))
        (first | (refine tkJ 6 _ (h := ?_)) | (refine tkM 6 (h := ?_)))
        (first | (refine tkJ 7 _ (h := ?_)) | (refine tkM 7 (h := ?_)))
        (first | (refine tkJ 8 _ (h := ?_)) | (refine tkM 8 (h := ?_)))
        (first | (refine tkJ 9 _ (h := ?_)) | (refine tkM 9 (h := ?_)))
        (first | (refine tkJ 10 _ (h := ?_)) | (refine tkM 10 (h := ?_)))
        (first | (refine tkJ 11 _ (h := ?_)) | (refine tkM 11 (h := ?_)))
        (first | (refine tkJ 12 _ (h := ?_)) | (refine tkM 12 (h := ?_)))
        (first | (refine tkJ 13 _ (h := ?_)) | (refine tkM 13 (h := ?_)))
        (first | (refine tkJ 14 _ (h := ?_)) | (refine tkM 14 (h := ?_)))
        (first | (refine tkJ 15 _ (h := ?_)) | (refine tkM 15 (h := ?_)))
        (refine tkJ 16 _ (h := ?_))
        (refine tkJ 17 _ (h := ?_))
        (refine wpAnyH_done (by kernel_rfl) ?_ _)
        go_wp2_with fail
        go_ret
        exact ⟨ret_bool HE2.out.symm, HW.out.trans (hHeld.2.2.2.2.2.2.mono HW.out.size)⟩
      | true =>
        have hk5 : a.kind = 5 := by
          unfold kidB at hq
          exact of_decide_eq_true (Bool.and_eq_true_iff.1 hq).1
        have hl5 := two_len hua (.inr (.inl hk5))
        obtain ⟨kb, ko, A3, c3, rfl, e0, e1, e2, hkt⟩ := kid0_at HA.out (by omega)
        have hkb := T.kid_bulk (t := a) (i := 0) (by omega)
        have HE2 := Lib.hid (show R = decide ((a.kid 0).cmp bb = 0) by rw [← HE.out]; rfl)
        have HS := Lib.hid (fun v v' W' (h1 : TermAt W' v (a.kid 0)) (h2 : TermAt W' v' bb) => rsame (a.kid 0) bb v v' W' h1 h2 (by omega) (by omega))
        rw [← HE2.out] at HS
        have HKT := Lib.hid hkt
        generalize a.kid 0 = X at e0 e1 e2 HS HKT
        rw [hl5] at d2 HA
        clear HE hq hkt hkb HE2 hk5 hl5
        go_upto_region 11 with fail
        (refine wp_region_held_drew (S := (fun Wq => Wq.cell? ⟨w.heap.size, 0, none⟩ = some (.int .i64 t.kind) ∧ Wq.cell? ⟨w.heap.size, 1, none⟩ = some (.string t.name) ∧ Wq.cell? ⟨w.heap.size, 2, none⟩ = some (.slice At t.kids.length ct) ∧ Wq.cell? ⟨b, off, none⟩ = some (.int .i64 a.kind) ∧ Wq.cell? ⟨b, off + 1, none⟩ = some (.string a.name) ∧ Wq.cell? ⟨b, off + 2, none⟩ = some (.slice (some ⟨kb, ko, none⟩) 2 c0) ∧ Wq.cell? ⟨kb, ko, none⟩ = some (.int .i64 X.kind) ∧ Wq.cell? ⟨kb, ko + 1, none⟩ = some (.string X.name) ∧ Wq.cell? ⟨kb, ko + 2, none⟩ = some (.slice A3 X.kids.length c3) ∧ Wq.cell? ⟨b, off + 3, none⟩ = some (.int .i64 bb.kind) ∧ Wq.cell? ⟨b, off + 3 + 1, none⟩ = some (.string bb.name) ∧ Wq.cell? ⟨b, off + 3 + 2, none⟩ = some (.slice A1 bb.kids.length c1) ∧ Below w1.heap.size w1 Wq)) (by kernel_rfl) (show _ ∧ _ ∧ _ ∧ _ ∧ _ ∧ _ ∧ _ ∧ _ ∧ _ ∧ _ ∧ _ ∧ _ ∧ _ from ⟨t0, t1, t2, d0, d1, d2, e0, e1, e2, f0, f1, f2, (Below.refl _ w1).drew⟩) (fun hHeld => ?_))
        (refine tkJ 0 _ (h := ?_))
        (refine tkJ 1 _ (h := ?_))
        (refine tkJ 2 _ (h := ?_))
        (refine tkJ 3 _ (h := ?_))
        (refine rdJ 4 (h := fun K hK => ?_); go_simp; go_at_call 91; refine (HC.out _ _ _ (HT.out.later hHeld.2.2.2.2.2.2.2.2.2.2.2.2) (HA.out.later hHeld.2.2.2.2.2.2.2.2.2.2.2.2)).mono ?_; rintro e wz ⟨rfl, hb4⟩; refine shK hK (held12 hHeld hb4) (h := fun hHeld => ?_); clear hK K)
        (refine tkJ 5 _ (h := ?_))
        (refine tkJ 6 _ (h := ?_))
        (refine tkJ 7 _ (h := ?_))
        (refine tkJ 8 _ (h := ?_))
        (refine tkJ 9 _ (h := ?_))
        (refine tkJ 10 _ (h := ?_))
        (refine tkJ 11 _ (h := ?_))
        (refine tkJ 12 _ (h := ?_))
        (refine tkJ 13 _ (h := ?_))
        (refine tkJ 14 _ (h := ?_))
        (refine rdJ 15 (h := fun K hK => ?_); go_simp; go_at_call 25; refine (HS.out _ _ _ (HKT.out.later hHeld.2.2.2.2.2.2.2.2.2.2.2.2) (HB.out.later hHeld.2.2.2.2.2.2.2.2.2.2.2.2)).mono ?_; rintro e wz2 ⟨rfl, hb4⟩; refine shK hK (held12 hHeld hb4) (h := fun hHeld => ?_); clear hK K)
        (refine tkJ 16 _ (h := ?_))
        (refine tkJ 17 _ (h := ?_))
        (refine wpAnyH_done (by kernel_rfl) ?_ _)
        go_wp2_with fail
        go_ret
        exact ⟨rfl, HW.out.trans (hHeld.2.2.2.2.2.2.2.2.2.2.2.2.mono HW.out.size)⟩
    · skip
      have HE := Lib.hid (show madeB t 3 [a, bb] = R from HR.out)
      have HC := Lib.hid (HMD.out 3 _ _ (by decide) HT.out HX.out)
      clear HMD HK HKB
      go_wp2_with fail
      refine HC.out.mono ?_; rintro e wz ⟨rfl, hb4⟩
      have HB4 := Lib.hid (HW.out.trans (hb4.mono HW.out.size))
      clear hb4
      go_wp2_with fail
      go_ret
      exact ⟨ret_bool HE.out, HB4.out⟩
    · skip
      have HE := Lib.hid (show madeB t 5 [a, bb] = R from HR.out)
      have HC := Lib.hid (HMD.out 5 _ _ (by decide) HT.out HX.out)
      clear HMD HK HKB
      go_wp2_with fail
      refine HC.out.mono ?_; rintro e wz ⟨rfl, hb4⟩
      have HB4 := Lib.hid (HW.out.trans (hb4.mono HW.out.size))
      clear hb4
      go_wp2_with fail
      go_ret
      exact ⟨ret_bool HE.out, HB4.out⟩
    · skip
      have HE := Lib.hid (show madeB t 6 [a, bb] = R from HR.out)
      have HC := Lib.hid (HMD.out 6 _ _ (by decide) HT.out HX.out)
      clear HMD HK HKB
      go_wp2_with fail
      refine HC.out.mono ?_; rintro e wz ⟨rfl, hb4⟩
      have HB4 := Lib.hid (HW.out.trans (hb4.mono HW.out.size))
      clear hb4
      go_wp2_with fail
      go_ret
      exact ⟨ret_bool HE.out, HB4.out⟩
    · have HE := Lib.hid (show (if a.kind = 7 ∧ bb.kind = 1 then sameB t (raisedT a bb) else false) = R from HR.out)
      obtain ⟨ka, hka⟩ : ∃ k, a.kind = k := ⟨_, rfl⟩
      obtain ⟨kb, hkb⟩ : ∃ k, bb.kind = k := ⟨_, rfl⟩
      have HKA := Lib.hid hka; have HKB2 := Lib.hid hkb
      rw [hka] at d0 HE
      rw [hkb] at f0 HE
      clear HMD HK HKB
      by_cases hk7 : ka = 7
      · subst hk7
        by_cases hk1 : kb = 1
        · subst hk1
          have HE2 := Lib.hid (show R = decide (t.cmp (raisedT a bb) = 0) by rw [← HE.out, if_pos ⟨rfl, rfl⟩]; rfl)
          have hna : 0 < a.kids.length := by have hk := T.shapeK (Bool.and_eq_true_iff.1 (T.use_valid hua)).2; omega
          have hpb := pow_bulk (a := a) (b := bb) (by omega) (by have := name_bulk hub hkb; omega)
          have HNO := Lib.hid (show ∀ v W, TermAt W v (.mk 7 ⟨#[]⟩ (a.kids ++ [bb])) → Calls Tryz.prog 47 #[v] W (RetT (raisedT a bb) W) from fun v W h => rnormal (.mk 7 ⟨#[]⟩ (a.kids ++ [bb])) v W h hpb)
          have HS := Lib.hid (fun v v' W' (h1 : TermAt W' v t) (h2 : TermAt W' v' (raisedT a bb)) => rsame t (raisedT a bb) v v' W' h1 h2 (by omega) (nrm_bulk hpb))
          rw [← HE2.out] at HS
          generalize raisedT a bb = RT at HNO HS
          clear HE HE2
          have hnb : a.kids.length ≤ 1048576 := by have := T.len_le a.kids; have := a.bulk_eq; omega
          have HO2 := Lib.hid (show ∀ u ∈ [Value.int .i64 1, .string bb.name, .slice A1 bb.kids.length c1], u.oneCell' = true from fun u hu => by simp at hu; rcases hu with rfl | rfl | rfl <;> rfl)
          have HLT := Lib.hid (show b < w1.heap.size from World.block_lt_of_cell? w1 _ d0)
          rw [hkb] at HB
          clear hka hkb hpb hab hbb
          go_upto_region 24 with fail
          go_cut [9] (fun s9 W' => LongAt w1 s9 (.mk 7 ⟨#[]⟩ (a.kids ++ [bb])) W')
          case first =>
            (refine wp_region_held_drew (S := (fun Wq => Wq.cell? ⟨b, off + 2, none⟩ = some (.slice A0 a.kids.length c0) ∧ Wq.cell? ⟨b, off + 3, none⟩ = some (.int .i64 1) ∧ Wq.cell? ⟨b, off + 3 + 1, none⟩ = some (.string bb.name) ∧ Wq.cell? ⟨b, off + 3 + 2, none⟩ = some (.slice A1 bb.kids.length c1) ∧ Below w1.heap.size w1 Wq)) (by kernel_rfl) (show _ ∧ _ ∧ _ ∧ _ ∧ _ from ⟨d2, f0, f1, f2, (Below.refl _ w1).drew⟩) (fun hHeld => ?_))
            (refine tkJ 1 _ (h := ?_))
            (refine tkJ 2 _ (h := ?_))
            (refine tkJ 3 _ (h := ?_))
            (refine tkJ 4 _ (h := ?_))
            (refine tkJ 6 _ (h := ?_))
            (refine tkJ 7 _ (h := ?_))
            (refine tkJ 8 _ (h := ?_))
            obtain ⟨wq, hwq⟩ : ∃ wq, w1.drew = wq := ⟨_, rfl⟩
            rw [hwq] at hHeld ⊢
            have HH0 := Lib.hid hHeld
            have HBQ := Lib.hid hHeld.2.2.2.2
            have hTB := HB.out.later HBQ.out
            obtain ⟨xsA, hsa, hct, hoa⟩ := (HA.out.kids_known.later HBQ.out).src'
            have HSA := Lib.hid hsa; have HOA := Lib.hid hoa
            have hs := LS.start wq [.int .i64 1, .string bb.name, .slice A1 bb.kids.length c1]
            clear hsa hoa hwq
            refine wpAnyH_ready (rs := [0, 9, 12]) (by kernel_rfl) (by simp) (rdK (i := 0) (h := fun K hK => ?_) (hs := (rdK (i := 9) (h := fun K hK => ?_) (hs := (rdK (i := 12) (h := fun K hK => ?_) (hs := AllReadyH.nil))))))
            · go_simp; have hs := hs.s0; generalize wq.alloc (.cells #[] 29) = u2 at hs ⊢; refine shK hK (held4 HH0.out hs.hB) (h := fun hHeld => ?_); clear hK K
              refine wpAnyH_ready (rs := [5, 9, 12]) (by kernel_rfl) (by simp) (rdK (i := 5) (h := fun K hK => ?_) (hs := (rdK (i := 9) (h := fun K hK => ?_) (hs := (rdK (i := 12) (h := fun K hK => ?_) (hs := AllReadyH.nil))))))
              · refine step_append_src _ (by rfl) _ _ _ (by rfl) wq.heap.size 29 i0 _ 3 48 Tryz.underlying27 hi0 hz0 hz1 hz2 rfl (by omega) _ 0 _ (by rfl) hs.hO _ a.kids.length _ _ (by rfl) (HSA.out.later hs.hB) HOA.out (by unfold maxLen; omega) (by omega) hs.hB.size ?_; intro A7 c7 u3 hO hg hat
                simp only [Nat.zero_add, List.nil_append] at hO ⊢
                have hs := hs.grow hO hg hat hna; clear hO hg hat; refine shK hK (held4 HH0.out hs.hB) (h := fun hHeld => ?_); clear hK K
                refine wpAnyH_ready (rs := [9, 12]) (by kernel_rfl) (by simp) (rdK (i := 9) (h := fun K hK => ?_) (hs := (rdK (i := 12) (h := fun K hK => ?_) (hs := AllReadyH.nil))))
                · go_simp; have hs := LS.s9 (o := #[.int .i64 1, .string bb.name, .slice A1 bb.kids.length c1]) hs rfl; generalize u3.alloc (.cells #[.int .i64 1, .string bb.name, .slice A1 bb.kids.length c1] 29) = u4 at hs ⊢; refine shK hK (held4 HH0.out hs.hB) (h := fun hHeld => ?_); clear hK K
                  refine wpAnyH_ready (rs := [10, 12]) (by kernel_rfl) (by simp) (rdK (i := 10) (h := fun K hK => ?_) (hs := (rdK (i := 12) (h := fun K hK => ?_) (hs := AllReadyH.nil))))
                  · refine step_append_src _ (by rfl) _ _ _ (by rfl) wq.heap.size 29 i0 _ 3 48 Tryz.underlying27 hi0 hz0 hz1 hz2 rfl (by omega) _ a.kids.length _ (by rfl) hs.hO _ 1 _ _ (by rfl) (hs.h9 _ rfl).1 HO2.out (by unfold maxLen; omega) (by omega) hs.hB.size ?_; intro A8 c8 u5 hO hg hat
                    have hs := hs.grow hO hg hat (Nat.succ_pos _); clear hO hg hat; refine shK hK (held4 HH0.out hs.hB) (h := fun hHeld => ?_); clear hK K
                    (refine tkJ 11 _ (h := ?_))
                    refine rdJ 12 (h := fun K hK => ?_)
                    go_simp; have hs := hs.s12; generalize u5.alloc (.cells #[.int .i64 0, .string ⟨#[]⟩, .slice none 0 0] 29) = u6 at hs ⊢; refine shK hK (held4 HH0.out hs.hB) (h := fun hHeld => ?_); clear hK K
                    refine rdJ 13 (h := fun K hK => ?_)
                    obtain ⟨hX, hle, hno⟩ := hs.h12 _ rfl
                    obtain ⟨r0, r1, r2⟩ := hX.cells; obtain ⟨fz0, fz1, fz2⟩ := hX.free; have HFIN := Lib.hid (long_fin HKB2.out HBQ.out hs.hB hs.hO hX hno hct hTB hle); have HSS := Lib.hid (fun x y z => long_S (x := x) (y := y) (z := z) HH0.out hs.hB hX hle HLT.out); clear hct hTB hX hno hs; go_simp; refine shK hK (HSS.out _ _ _) (h := fun hHeld => ?_); clear hK K
                    (refine wpAnyH_done (by kernel_rfl) ?_ _); go_wp2_with fail; go_meet; exact HFIN.out
                  · go_simp; have hs := hs.s12; generalize u4.alloc (.cells #[.int .i64 0, .string ⟨#[]⟩, .slice none 0 0] 29) = u7 at hs ⊢; refine shK hK (held4 HH0.out hs.hB) (h := fun hHeld => ?_); clear hK K
                    refine rdJ 10 (h := fun K hK => ?_)
                    refine step_append_src _ (by rfl) _ _ _ (by rfl) wq.heap.size 29 i0 _ 3 48 Tryz.underlying27 hi0 hz0 hz1 hz2 rfl (by omega) _ a.kids.length _ (by rfl) hs.hO _ 1 _ _ (by rfl) (hs.h9 _ rfl).1 HO2.out (by unfold maxLen; omega) (by omega) hs.hB.size ?_; intro A8 c8 u8 hO hg hat
                    have hs := hs.grow hO hg hat (Nat.succ_pos _); clear hO hg hat; refine shK hK (held4 HH0.out hs.hB) (h := fun hHeld => ?_); clear hK K
                    (refine tkJ 11 _ (h := ?_))
                    refine rdJ 13 (h := fun K hK => ?_)
                    obtain ⟨hX, hle, hno⟩ := hs.h12 _ rfl
                    obtain ⟨r0, r1, r2⟩ := hX.cells; obtain ⟨fz0, fz1, fz2⟩ := hX.free; have HFIN := Lib.hid (long_fin HKB2.out HBQ.out hs.hB hs.hO hX hno hct hTB hle); have HSS := Lib.hid (fun x y z => long_S (x := x) (y := y) (z := z) HH0.out hs.hB hX hle HLT.out); clear hct hTB hX hno hs; go_simp; refine shK hK (HSS.out _ _ _) (h := fun hHeld => ?_); clear hK K
                    (refine wpAnyH_done (by kernel_rfl) ?_ _); go_wp2_with fail; go_meet; exact HFIN.out
                · go_simp; have hs := hs.s12; generalize u3.alloc (.cells #[.int .i64 0, .string ⟨#[]⟩, .slice none 0 0] 29) = u9 at hs ⊢; refine shK hK (held4 HH0.out hs.hB) (h := fun hHeld => ?_); clear hK K
                  refine rdJ 9 (h := fun K hK => ?_)
                  go_simp; have hs := LS.s9 (o := #[.int .i64 1, .string bb.name, .slice A1 bb.kids.length c1]) hs rfl; generalize u9.alloc (.cells #[.int .i64 1, .string bb.name, .slice A1 bb.kids.length c1] 29) = u10 at hs ⊢; refine shK hK (held4 HH0.out hs.hB) (h := fun hHeld => ?_); clear hK K
                  refine rdJ 10 (h := fun K hK => ?_)
                  refine step_append_src _ (by rfl) _ _ _ (by rfl) wq.heap.size 29 i0 _ 3 48 Tryz.underlying27 hi0 hz0 hz1 hz2 rfl (by omega) _ a.kids.length _ (by rfl) hs.hO _ 1 _ _ (by rfl) (hs.h9 _ rfl).1 HO2.out (by unfold maxLen; omega) (by omega) hs.hB.size ?_; intro A8 c8 u11 hO hg hat
                  have hs := hs.grow hO hg hat (Nat.succ_pos _); clear hO hg hat; refine shK hK (held4 HH0.out hs.hB) (h := fun hHeld => ?_); clear hK K
                  (refine tkJ 11 _ (h := ?_))
                  refine rdJ 13 (h := fun K hK => ?_)
                  obtain ⟨hX, hle, hno⟩ := hs.h12 _ rfl
                  obtain ⟨r0, r1, r2⟩ := hX.cells; obtain ⟨fz0, fz1, fz2⟩ := hX.free; have HFIN := Lib.hid (long_fin HKB2.out HBQ.out hs.hB hs.hO hX hno hct hTB hle); have HSS := Lib.hid (fun x y z => long_S (x := x) (y := y) (z := z) HH0.out hs.hB hX hle HLT.out); clear hct hTB hX hno hs; go_simp; refine shK hK (HSS.out _ _ _) (h := fun hHeld => ?_); clear hK K
                  (refine wpAnyH_done (by kernel_rfl) ?_ _); go_wp2_with fail; go_meet; exact HFIN.out
              · go_simp; have hs := LS.s9 (o := #[.int .i64 1, .string bb.name, .slice A1 bb.kids.length c1]) hs rfl; generalize u2.alloc (.cells #[.int .i64 1, .string bb.name, .slice A1 bb.kids.length c1] 29) = u12 at hs ⊢; refine shK hK (held4 HH0.out hs.hB) (h := fun hHeld => ?_); clear hK K
                refine wpAnyH_ready (rs := [5, 12]) (by kernel_rfl) (by simp) (rdK (i := 5) (h := fun K hK => ?_) (hs := (rdK (i := 12) (h := fun K hK => ?_) (hs := AllReadyH.nil))))
                · refine step_append_src _ (by rfl) _ _ _ (by rfl) wq.heap.size 29 i0 _ 3 48 Tryz.underlying27 hi0 hz0 hz1 hz2 rfl (by omega) _ 0 _ (by rfl) hs.hO _ a.kids.length _ _ (by rfl) (HSA.out.later hs.hB) HOA.out (by unfold maxLen; omega) (by omega) hs.hB.size ?_; intro A7 c7 u13 hO hg hat
                  simp only [Nat.zero_add, List.nil_append] at hO ⊢
                  have hs := hs.grow hO hg hat hna; clear hO hg hat; refine shK hK (held4 HH0.out hs.hB) (h := fun hHeld => ?_); clear hK K
                  refine wpAnyH_ready (rs := [10, 12]) (by kernel_rfl) (by simp) (rdK (i := 10) (h := fun K hK => ?_) (hs := (rdK (i := 12) (h := fun K hK => ?_) (hs := AllReadyH.nil))))
                  · refine step_append_src _ (by rfl) _ _ _ (by rfl) wq.heap.size 29 i0 _ 3 48 Tryz.underlying27 hi0 hz0 hz1 hz2 rfl (by omega) _ a.kids.length _ (by rfl) hs.hO _ 1 _ _ (by rfl) (hs.h9 _ rfl).1 HO2.out (by unfold maxLen; omega) (by omega) hs.hB.size ?_; intro A8 c8 u14 hO hg hat
                    have hs := hs.grow hO hg hat (Nat.succ_pos _); clear hO hg hat; refine shK hK (held4 HH0.out hs.hB) (h := fun hHeld => ?_); clear hK K
                    (refine tkJ 11 _ (h := ?_))
                    refine rdJ 12 (h := fun K hK => ?_)
                    go_simp; have hs := hs.s12; generalize u14.alloc (.cells #[.int .i64 0, .string ⟨#[]⟩, .slice none 0 0] 29) = u15 at hs ⊢; refine shK hK (held4 HH0.out hs.hB) (h := fun hHeld => ?_); clear hK K
                    refine rdJ 13 (h := fun K hK => ?_)
                    obtain ⟨hX, hle, hno⟩ := hs.h12 _ rfl
                    obtain ⟨r0, r1, r2⟩ := hX.cells; obtain ⟨fz0, fz1, fz2⟩ := hX.free; have HFIN := Lib.hid (long_fin HKB2.out HBQ.out hs.hB hs.hO hX hno hct hTB hle); have HSS := Lib.hid (fun x y z => long_S (x := x) (y := y) (z := z) HH0.out hs.hB hX hle HLT.out); clear hct hTB hX hno hs; go_simp; refine shK hK (HSS.out _ _ _) (h := fun hHeld => ?_); clear hK K
                    (refine wpAnyH_done (by kernel_rfl) ?_ _); go_wp2_with fail; go_meet; exact HFIN.out
                  · go_simp; have hs := hs.s12; generalize u13.alloc (.cells #[.int .i64 0, .string ⟨#[]⟩, .slice none 0 0] 29) = u16 at hs ⊢; refine shK hK (held4 HH0.out hs.hB) (h := fun hHeld => ?_); clear hK K
                    refine rdJ 10 (h := fun K hK => ?_)
                    refine step_append_src _ (by rfl) _ _ _ (by rfl) wq.heap.size 29 i0 _ 3 48 Tryz.underlying27 hi0 hz0 hz1 hz2 rfl (by omega) _ a.kids.length _ (by rfl) hs.hO _ 1 _ _ (by rfl) (hs.h9 _ rfl).1 HO2.out (by unfold maxLen; omega) (by omega) hs.hB.size ?_; intro A8 c8 u17 hO hg hat
                    have hs := hs.grow hO hg hat (Nat.succ_pos _); clear hO hg hat; refine shK hK (held4 HH0.out hs.hB) (h := fun hHeld => ?_); clear hK K
                    (refine tkJ 11 _ (h := ?_))
                    refine rdJ 13 (h := fun K hK => ?_)
                    obtain ⟨hX, hle, hno⟩ := hs.h12 _ rfl
                    obtain ⟨r0, r1, r2⟩ := hX.cells; obtain ⟨fz0, fz1, fz2⟩ := hX.free; have HFIN := Lib.hid (long_fin HKB2.out HBQ.out hs.hB hs.hO hX hno hct hTB hle); have HSS := Lib.hid (fun x y z => long_S (x := x) (y := y) (z := z) HH0.out hs.hB hX hle HLT.out); clear hct hTB hX hno hs; go_simp; refine shK hK (HSS.out _ _ _) (h := fun hHeld => ?_); clear hK K
                    (refine wpAnyH_done (by kernel_rfl) ?_ _); go_wp2_with fail; go_meet; exact HFIN.out
                · go_simp; have hs := hs.s12; generalize u12.alloc (.cells #[.int .i64 0, .string ⟨#[]⟩, .slice none 0 0] 29) = u18 at hs ⊢; refine shK hK (held4 HH0.out hs.hB) (h := fun hHeld => ?_); clear hK K
                  refine rdJ 5 (h := fun K hK => ?_)
                  refine step_append_src _ (by rfl) _ _ _ (by rfl) wq.heap.size 29 i0 _ 3 48 Tryz.underlying27 hi0 hz0 hz1 hz2 rfl (by omega) _ 0 _ (by rfl) hs.hO _ a.kids.length _ _ (by rfl) (HSA.out.later hs.hB) HOA.out (by unfold maxLen; omega) (by omega) hs.hB.size ?_; intro A7 c7 u19 hO hg hat
                  simp only [Nat.zero_add, List.nil_append] at hO ⊢
                  have hs := hs.grow hO hg hat hna; clear hO hg hat; refine shK hK (held4 HH0.out hs.hB) (h := fun hHeld => ?_); clear hK K
                  refine rdJ 10 (h := fun K hK => ?_)
                  refine step_append_src _ (by rfl) _ _ _ (by rfl) wq.heap.size 29 i0 _ 3 48 Tryz.underlying27 hi0 hz0 hz1 hz2 rfl (by omega) _ a.kids.length _ (by rfl) hs.hO _ 1 _ _ (by rfl) (hs.h9 _ rfl).1 HO2.out (by unfold maxLen; omega) (by omega) hs.hB.size ?_; intro A8 c8 u20 hO hg hat
                  have hs := hs.grow hO hg hat (Nat.succ_pos _); clear hO hg hat; refine shK hK (held4 HH0.out hs.hB) (h := fun hHeld => ?_); clear hK K
                  (refine tkJ 11 _ (h := ?_))
                  refine rdJ 13 (h := fun K hK => ?_)
                  obtain ⟨hX, hle, hno⟩ := hs.h12 _ rfl
                  obtain ⟨r0, r1, r2⟩ := hX.cells; obtain ⟨fz0, fz1, fz2⟩ := hX.free; have HFIN := Lib.hid (long_fin HKB2.out HBQ.out hs.hB hs.hO hX hno hct hTB hle); have HSS := Lib.hid (fun x y z => long_S (x := x) (y := y) (z := z) HH0.out hs.hB hX hle HLT.out); clear hct hTB hX hno hs; go_simp; refine shK hK (HSS.out _ _ _) (h := fun hHeld => ?_); clear hK K
                  (refine wpAnyH_done (by kernel_rfl) ?_ _); go_wp2_with fail; go_meet; exact HFIN.out
              · go_simp; have hs := hs.s12; generalize u2.alloc (.cells #[.int .i64 0, .string ⟨#[]⟩, .slice none 0 0] 29) = u21 at hs ⊢; refine shK hK (held4 HH0.out hs.hB) (h := fun hHeld => ?_); clear hK K
                refine wpAnyH_ready (rs := [5, 9]) (by kernel_rfl) (by simp) (rdK (i := 5) (h := fun K hK => ?_) (hs := (rdK (i := 9) (h := fun K hK => ?_) (hs := AllReadyH.nil))))
                · refine step_append_src _ (by rfl) _ _ _ (by rfl) wq.heap.size 29 i0 _ 3 48 Tryz.underlying27 hi0 hz0 hz1 hz2 rfl (by omega) _ 0 _ (by rfl) hs.hO _ a.kids.length _ _ (by rfl) (HSA.out.later hs.hB) HOA.out (by unfold maxLen; omega) (by omega) hs.hB.size ?_; intro A7 c7 u22 hO hg hat
                  simp only [Nat.zero_add, List.nil_append] at hO ⊢
                  have hs := hs.grow hO hg hat hna; clear hO hg hat; refine shK hK (held4 HH0.out hs.hB) (h := fun hHeld => ?_); clear hK K
                  refine rdJ 9 (h := fun K hK => ?_)
                  go_simp; have hs := LS.s9 (o := #[.int .i64 1, .string bb.name, .slice A1 bb.kids.length c1]) hs rfl; generalize u22.alloc (.cells #[.int .i64 1, .string bb.name, .slice A1 bb.kids.length c1] 29) = u23 at hs ⊢; refine shK hK (held4 HH0.out hs.hB) (h := fun hHeld => ?_); clear hK K
                  refine rdJ 10 (h := fun K hK => ?_)
                  refine step_append_src _ (by rfl) _ _ _ (by rfl) wq.heap.size 29 i0 _ 3 48 Tryz.underlying27 hi0 hz0 hz1 hz2 rfl (by omega) _ a.kids.length _ (by rfl) hs.hO _ 1 _ _ (by rfl) (hs.h9 _ rfl).1 HO2.out (by unfold maxLen; omega) (by omega) hs.hB.size ?_; intro A8 c8 u24 hO hg hat
                  have hs := hs.grow hO hg hat (Nat.succ_pos _); clear hO hg hat; refine shK hK (held4 HH0.out hs.hB) (h := fun hHeld => ?_); clear hK K
                  (refine tkJ 11 _ (h := ?_))
                  refine rdJ 13 (h := fun K hK => ?_)
                  obtain ⟨hX, hle, hno⟩ := hs.h12 _ rfl
                  obtain ⟨r0, r1, r2⟩ := hX.cells; obtain ⟨fz0, fz1, fz2⟩ := hX.free; have HFIN := Lib.hid (long_fin HKB2.out HBQ.out hs.hB hs.hO hX hno hct hTB hle); have HSS := Lib.hid (fun x y z => long_S (x := x) (y := y) (z := z) HH0.out hs.hB hX hle HLT.out); clear hct hTB hX hno hs; go_simp; refine shK hK (HSS.out _ _ _) (h := fun hHeld => ?_); clear hK K
                  (refine wpAnyH_done (by kernel_rfl) ?_ _); go_wp2_with fail; go_meet; exact HFIN.out
                · go_simp; have hs := LS.s9 (o := #[.int .i64 1, .string bb.name, .slice A1 bb.kids.length c1]) hs rfl; generalize u21.alloc (.cells #[.int .i64 1, .string bb.name, .slice A1 bb.kids.length c1] 29) = u25 at hs ⊢; refine shK hK (held4 HH0.out hs.hB) (h := fun hHeld => ?_); clear hK K
                  refine rdJ 5 (h := fun K hK => ?_)
                  refine step_append_src _ (by rfl) _ _ _ (by rfl) wq.heap.size 29 i0 _ 3 48 Tryz.underlying27 hi0 hz0 hz1 hz2 rfl (by omega) _ 0 _ (by rfl) hs.hO _ a.kids.length _ _ (by rfl) (HSA.out.later hs.hB) HOA.out (by unfold maxLen; omega) (by omega) hs.hB.size ?_; intro A7 c7 u26 hO hg hat
                  simp only [Nat.zero_add, List.nil_append] at hO ⊢
                  have hs := hs.grow hO hg hat hna; clear hO hg hat; refine shK hK (held4 HH0.out hs.hB) (h := fun hHeld => ?_); clear hK K
                  refine rdJ 10 (h := fun K hK => ?_)
                  refine step_append_src _ (by rfl) _ _ _ (by rfl) wq.heap.size 29 i0 _ 3 48 Tryz.underlying27 hi0 hz0 hz1 hz2 rfl (by omega) _ a.kids.length _ (by rfl) hs.hO _ 1 _ _ (by rfl) (hs.h9 _ rfl).1 HO2.out (by unfold maxLen; omega) (by omega) hs.hB.size ?_; intro A8 c8 u27 hO hg hat
                  have hs := hs.grow hO hg hat (Nat.succ_pos _); clear hO hg hat; refine shK hK (held4 HH0.out hs.hB) (h := fun hHeld => ?_); clear hK K
                  (refine tkJ 11 _ (h := ?_))
                  refine rdJ 13 (h := fun K hK => ?_)
                  obtain ⟨hX, hle, hno⟩ := hs.h12 _ rfl
                  obtain ⟨r0, r1, r2⟩ := hX.cells; obtain ⟨fz0, fz1, fz2⟩ := hX.free; have HFIN := Lib.hid (long_fin HKB2.out HBQ.out hs.hB hs.hO hX hno hct hTB hle); have HSS := Lib.hid (fun x y z => long_S (x := x) (y := y) (z := z) HH0.out hs.hB hX hle HLT.out); clear hct hTB hX hno hs; go_simp; refine shK hK (HSS.out _ _ _) (h := fun hHeld => ?_); clear hK K
                  (refine wpAnyH_done (by kernel_rfl) ?_ _); go_wp2_with fail; go_meet; exact HFIN.out
            · go_simp; have hs := LS.s9 (o := #[.int .i64 1, .string bb.name, .slice A1 bb.kids.length c1]) hs rfl; generalize wq.alloc (.cells #[.int .i64 1, .string bb.name, .slice A1 bb.kids.length c1] 29) = u28 at hs ⊢; refine shK hK (held4 HH0.out hs.hB) (h := fun hHeld => ?_); clear hK K
              refine wpAnyH_ready (rs := [0, 12]) (by kernel_rfl) (by simp) (rdK (i := 0) (h := fun K hK => ?_) (hs := (rdK (i := 12) (h := fun K hK => ?_) (hs := AllReadyH.nil))))
              · go_simp; have hs := hs.s0; generalize u28.alloc (.cells #[] 29) = u29 at hs ⊢; refine shK hK (held4 HH0.out hs.hB) (h := fun hHeld => ?_); clear hK K
                refine wpAnyH_ready (rs := [5, 12]) (by kernel_rfl) (by simp) (rdK (i := 5) (h := fun K hK => ?_) (hs := (rdK (i := 12) (h := fun K hK => ?_) (hs := AllReadyH.nil))))
                · refine step_append_src _ (by rfl) _ _ _ (by rfl) wq.heap.size 29 i0 _ 3 48 Tryz.underlying27 hi0 hz0 hz1 hz2 rfl (by omega) _ 0 _ (by rfl) hs.hO _ a.kids.length _ _ (by rfl) (HSA.out.later hs.hB) HOA.out (by unfold maxLen; omega) (by omega) hs.hB.size ?_; intro A7 c7 u30 hO hg hat
                  simp only [Nat.zero_add, List.nil_append] at hO ⊢
                  have hs := hs.grow hO hg hat hna; clear hO hg hat; refine shK hK (held4 HH0.out hs.hB) (h := fun hHeld => ?_); clear hK K
                  refine wpAnyH_ready (rs := [10, 12]) (by kernel_rfl) (by simp) (rdK (i := 10) (h := fun K hK => ?_) (hs := (rdK (i := 12) (h := fun K hK => ?_) (hs := AllReadyH.nil))))
                  · refine step_append_src _ (by rfl) _ _ _ (by rfl) wq.heap.size 29 i0 _ 3 48 Tryz.underlying27 hi0 hz0 hz1 hz2 rfl (by omega) _ a.kids.length _ (by rfl) hs.hO _ 1 _ _ (by rfl) (hs.h9 _ rfl).1 HO2.out (by unfold maxLen; omega) (by omega) hs.hB.size ?_; intro A8 c8 u31 hO hg hat
                    have hs := hs.grow hO hg hat (Nat.succ_pos _); clear hO hg hat; refine shK hK (held4 HH0.out hs.hB) (h := fun hHeld => ?_); clear hK K
                    (refine tkJ 11 _ (h := ?_))
                    refine rdJ 12 (h := fun K hK => ?_)
                    go_simp; have hs := hs.s12; generalize u31.alloc (.cells #[.int .i64 0, .string ⟨#[]⟩, .slice none 0 0] 29) = u32 at hs ⊢; refine shK hK (held4 HH0.out hs.hB) (h := fun hHeld => ?_); clear hK K
                    refine rdJ 13 (h := fun K hK => ?_)
                    obtain ⟨hX, hle, hno⟩ := hs.h12 _ rfl
                    obtain ⟨r0, r1, r2⟩ := hX.cells; obtain ⟨fz0, fz1, fz2⟩ := hX.free; have HFIN := Lib.hid (long_fin HKB2.out HBQ.out hs.hB hs.hO hX hno hct hTB hle); have HSS := Lib.hid (fun x y z => long_S (x := x) (y := y) (z := z) HH0.out hs.hB hX hle HLT.out); clear hct hTB hX hno hs; go_simp; refine shK hK (HSS.out _ _ _) (h := fun hHeld => ?_); clear hK K
                    (refine wpAnyH_done (by kernel_rfl) ?_ _); go_wp2_with fail; go_meet; exact HFIN.out
                  · go_simp; have hs := hs.s12; generalize u30.alloc (.cells #[.int .i64 0, .string ⟨#[]⟩, .slice none 0 0] 29) = u33 at hs ⊢; refine shK hK (held4 HH0.out hs.hB) (h := fun hHeld => ?_); clear hK K
                    refine rdJ 10 (h := fun K hK => ?_)
                    refine step_append_src _ (by rfl) _ _ _ (by rfl) wq.heap.size 29 i0 _ 3 48 Tryz.underlying27 hi0 hz0 hz1 hz2 rfl (by omega) _ a.kids.length _ (by rfl) hs.hO _ 1 _ _ (by rfl) (hs.h9 _ rfl).1 HO2.out (by unfold maxLen; omega) (by omega) hs.hB.size ?_; intro A8 c8 u34 hO hg hat
                    have hs := hs.grow hO hg hat (Nat.succ_pos _); clear hO hg hat; refine shK hK (held4 HH0.out hs.hB) (h := fun hHeld => ?_); clear hK K
                    (refine tkJ 11 _ (h := ?_))
                    refine rdJ 13 (h := fun K hK => ?_)
                    obtain ⟨hX, hle, hno⟩ := hs.h12 _ rfl
                    obtain ⟨r0, r1, r2⟩ := hX.cells; obtain ⟨fz0, fz1, fz2⟩ := hX.free; have HFIN := Lib.hid (long_fin HKB2.out HBQ.out hs.hB hs.hO hX hno hct hTB hle); have HSS := Lib.hid (fun x y z => long_S (x := x) (y := y) (z := z) HH0.out hs.hB hX hle HLT.out); clear hct hTB hX hno hs; go_simp; refine shK hK (HSS.out _ _ _) (h := fun hHeld => ?_); clear hK K
                    (refine wpAnyH_done (by kernel_rfl) ?_ _); go_wp2_with fail; go_meet; exact HFIN.out
                · go_simp; have hs := hs.s12; generalize u29.alloc (.cells #[.int .i64 0, .string ⟨#[]⟩, .slice none 0 0] 29) = u35 at hs ⊢; refine shK hK (held4 HH0.out hs.hB) (h := fun hHeld => ?_); clear hK K
                  refine rdJ 5 (h := fun K hK => ?_)
                  refine step_append_src _ (by rfl) _ _ _ (by rfl) wq.heap.size 29 i0 _ 3 48 Tryz.underlying27 hi0 hz0 hz1 hz2 rfl (by omega) _ 0 _ (by rfl) hs.hO _ a.kids.length _ _ (by rfl) (HSA.out.later hs.hB) HOA.out (by unfold maxLen; omega) (by omega) hs.hB.size ?_; intro A7 c7 u36 hO hg hat
                  simp only [Nat.zero_add, List.nil_append] at hO ⊢
                  have hs := hs.grow hO hg hat hna; clear hO hg hat; refine shK hK (held4 HH0.out hs.hB) (h := fun hHeld => ?_); clear hK K
                  refine rdJ 10 (h := fun K hK => ?_)
                  refine step_append_src _ (by rfl) _ _ _ (by rfl) wq.heap.size 29 i0 _ 3 48 Tryz.underlying27 hi0 hz0 hz1 hz2 rfl (by omega) _ a.kids.length _ (by rfl) hs.hO _ 1 _ _ (by rfl) (hs.h9 _ rfl).1 HO2.out (by unfold maxLen; omega) (by omega) hs.hB.size ?_; intro A8 c8 u37 hO hg hat
                  have hs := hs.grow hO hg hat (Nat.succ_pos _); clear hO hg hat; refine shK hK (held4 HH0.out hs.hB) (h := fun hHeld => ?_); clear hK K
                  (refine tkJ 11 _ (h := ?_))
                  refine rdJ 13 (h := fun K hK => ?_)
                  obtain ⟨hX, hle, hno⟩ := hs.h12 _ rfl
                  obtain ⟨r0, r1, r2⟩ := hX.cells; obtain ⟨fz0, fz1, fz2⟩ := hX.free; have HFIN := Lib.hid (long_fin HKB2.out HBQ.out hs.hB hs.hO hX hno hct hTB hle); have HSS := Lib.hid (fun x y z => long_S (x := x) (y := y) (z := z) HH0.out hs.hB hX hle HLT.out); clear hct hTB hX hno hs; go_simp; refine shK hK (HSS.out _ _ _) (h := fun hHeld => ?_); clear hK K
                  (refine wpAnyH_done (by kernel_rfl) ?_ _); go_wp2_with fail; go_meet; exact HFIN.out
              · go_simp; have hs := hs.s12; generalize u28.alloc (.cells #[.int .i64 0, .string ⟨#[]⟩, .slice none 0 0] 29) = u38 at hs ⊢; refine shK hK (held4 HH0.out hs.hB) (h := fun hHeld => ?_); clear hK K
                refine rdJ 0 (h := fun K hK => ?_)
                go_simp; have hs := hs.s0; generalize u38.alloc (.cells #[] 29) = u39 at hs ⊢; refine shK hK (held4 HH0.out hs.hB) (h := fun hHeld => ?_); clear hK K
                refine rdJ 5 (h := fun K hK => ?_)
                refine step_append_src _ (by rfl) _ _ _ (by rfl) wq.heap.size 29 i0 _ 3 48 Tryz.underlying27 hi0 hz0 hz1 hz2 rfl (by omega) _ 0 _ (by rfl) hs.hO _ a.kids.length _ _ (by rfl) (HSA.out.later hs.hB) HOA.out (by unfold maxLen; omega) (by omega) hs.hB.size ?_; intro A7 c7 u40 hO hg hat
                simp only [Nat.zero_add, List.nil_append] at hO ⊢
                have hs := hs.grow hO hg hat hna; clear hO hg hat; refine shK hK (held4 HH0.out hs.hB) (h := fun hHeld => ?_); clear hK K
                refine rdJ 10 (h := fun K hK => ?_)
                refine step_append_src _ (by rfl) _ _ _ (by rfl) wq.heap.size 29 i0 _ 3 48 Tryz.underlying27 hi0 hz0 hz1 hz2 rfl (by omega) _ a.kids.length _ (by rfl) hs.hO _ 1 _ _ (by rfl) (hs.h9 _ rfl).1 HO2.out (by unfold maxLen; omega) (by omega) hs.hB.size ?_; intro A8 c8 u41 hO hg hat
                have hs := hs.grow hO hg hat (Nat.succ_pos _); clear hO hg hat; refine shK hK (held4 HH0.out hs.hB) (h := fun hHeld => ?_); clear hK K
                (refine tkJ 11 _ (h := ?_))
                refine rdJ 13 (h := fun K hK => ?_)
                obtain ⟨hX, hle, hno⟩ := hs.h12 _ rfl
                obtain ⟨r0, r1, r2⟩ := hX.cells; obtain ⟨fz0, fz1, fz2⟩ := hX.free; have HFIN := Lib.hid (long_fin HKB2.out HBQ.out hs.hB hs.hO hX hno hct hTB hle); have HSS := Lib.hid (fun x y z => long_S (x := x) (y := y) (z := z) HH0.out hs.hB hX hle HLT.out); clear hct hTB hX hno hs; go_simp; refine shK hK (HSS.out _ _ _) (h := fun hHeld => ?_); clear hK K
                (refine wpAnyH_done (by kernel_rfl) ?_ _); go_wp2_with fail; go_meet; exact HFIN.out
            · go_simp; have hs := hs.s12; generalize wq.alloc (.cells #[.int .i64 0, .string ⟨#[]⟩, .slice none 0 0] 29) = u42 at hs ⊢; refine shK hK (held4 HH0.out hs.hB) (h := fun hHeld => ?_); clear hK K
              refine wpAnyH_ready (rs := [0, 9]) (by kernel_rfl) (by simp) (rdK (i := 0) (h := fun K hK => ?_) (hs := (rdK (i := 9) (h := fun K hK => ?_) (hs := AllReadyH.nil))))
              · go_simp; have hs := hs.s0; generalize u42.alloc (.cells #[] 29) = u43 at hs ⊢; refine shK hK (held4 HH0.out hs.hB) (h := fun hHeld => ?_); clear hK K
                refine wpAnyH_ready (rs := [5, 9]) (by kernel_rfl) (by simp) (rdK (i := 5) (h := fun K hK => ?_) (hs := (rdK (i := 9) (h := fun K hK => ?_) (hs := AllReadyH.nil))))
                · refine step_append_src _ (by rfl) _ _ _ (by rfl) wq.heap.size 29 i0 _ 3 48 Tryz.underlying27 hi0 hz0 hz1 hz2 rfl (by omega) _ 0 _ (by rfl) hs.hO _ a.kids.length _ _ (by rfl) (HSA.out.later hs.hB) HOA.out (by unfold maxLen; omega) (by omega) hs.hB.size ?_; intro A7 c7 u44 hO hg hat
                  simp only [Nat.zero_add, List.nil_append] at hO ⊢
                  have hs := hs.grow hO hg hat hna; clear hO hg hat; refine shK hK (held4 HH0.out hs.hB) (h := fun hHeld => ?_); clear hK K
                  refine rdJ 9 (h := fun K hK => ?_)
                  go_simp; have hs := LS.s9 (o := #[.int .i64 1, .string bb.name, .slice A1 bb.kids.length c1]) hs rfl; generalize u44.alloc (.cells #[.int .i64 1, .string bb.name, .slice A1 bb.kids.length c1] 29) = u45 at hs ⊢; refine shK hK (held4 HH0.out hs.hB) (h := fun hHeld => ?_); clear hK K
                  refine rdJ 10 (h := fun K hK => ?_)
                  refine step_append_src _ (by rfl) _ _ _ (by rfl) wq.heap.size 29 i0 _ 3 48 Tryz.underlying27 hi0 hz0 hz1 hz2 rfl (by omega) _ a.kids.length _ (by rfl) hs.hO _ 1 _ _ (by rfl) (hs.h9 _ rfl).1 HO2.out (by unfold maxLen; omega) (by omega) hs.hB.size ?_; intro A8 c8 u46 hO hg hat
                  have hs := hs.grow hO hg hat (Nat.succ_pos _); clear hO hg hat; refine shK hK (held4 HH0.out hs.hB) (h := fun hHeld => ?_); clear hK K
                  (refine tkJ 11 _ (h := ?_))
                  refine rdJ 13 (h := fun K hK => ?_)
                  obtain ⟨hX, hle, hno⟩ := hs.h12 _ rfl
                  obtain ⟨r0, r1, r2⟩ := hX.cells; obtain ⟨fz0, fz1, fz2⟩ := hX.free; have HFIN := Lib.hid (long_fin HKB2.out HBQ.out hs.hB hs.hO hX hno hct hTB hle); have HSS := Lib.hid (fun x y z => long_S (x := x) (y := y) (z := z) HH0.out hs.hB hX hle HLT.out); clear hct hTB hX hno hs; go_simp; refine shK hK (HSS.out _ _ _) (h := fun hHeld => ?_); clear hK K
                  (refine wpAnyH_done (by kernel_rfl) ?_ _); go_wp2_with fail; go_meet; exact HFIN.out
                · go_simp; have hs := LS.s9 (o := #[.int .i64 1, .string bb.name, .slice A1 bb.kids.length c1]) hs rfl; generalize u43.alloc (.cells #[.int .i64 1, .string bb.name, .slice A1 bb.kids.length c1] 29) = u47 at hs ⊢; refine shK hK (held4 HH0.out hs.hB) (h := fun hHeld => ?_); clear hK K
                  refine rdJ 5 (h := fun K hK => ?_)
                  refine step_append_src _ (by rfl) _ _ _ (by rfl) wq.heap.size 29 i0 _ 3 48 Tryz.underlying27 hi0 hz0 hz1 hz2 rfl (by omega) _ 0 _ (by rfl) hs.hO _ a.kids.length _ _ (by rfl) (HSA.out.later hs.hB) HOA.out (by unfold maxLen; omega) (by omega) hs.hB.size ?_; intro A7 c7 u48 hO hg hat
                  simp only [Nat.zero_add, List.nil_append] at hO ⊢
                  have hs := hs.grow hO hg hat hna; clear hO hg hat; refine shK hK (held4 HH0.out hs.hB) (h := fun hHeld => ?_); clear hK K
                  refine rdJ 10 (h := fun K hK => ?_)
                  refine step_append_src _ (by rfl) _ _ _ (by rfl) wq.heap.size 29 i0 _ 3 48 Tryz.underlying27 hi0 hz0 hz1 hz2 rfl (by omega) _ a.kids.length _ (by rfl) hs.hO _ 1 _ _ (by rfl) (hs.h9 _ rfl).1 HO2.out (by unfold maxLen; omega) (by omega) hs.hB.size ?_; intro A8 c8 u49 hO hg hat
                  have hs := hs.grow hO hg hat (Nat.succ_pos _); clear hO hg hat; refine shK hK (held4 HH0.out hs.hB) (h := fun hHeld => ?_); clear hK K
                  (refine tkJ 11 _ (h := ?_))
                  refine rdJ 13 (h := fun K hK => ?_)
                  obtain ⟨hX, hle, hno⟩ := hs.h12 _ rfl
                  obtain ⟨r0, r1, r2⟩ := hX.cells; obtain ⟨fz0, fz1, fz2⟩ := hX.free; have HFIN := Lib.hid (long_fin HKB2.out HBQ.out hs.hB hs.hO hX hno hct hTB hle); have HSS := Lib.hid (fun x y z => long_S (x := x) (y := y) (z := z) HH0.out hs.hB hX hle HLT.out); clear hct hTB hX hno hs; go_simp; refine shK hK (HSS.out _ _ _) (h := fun hHeld => ?_); clear hK K
                  (refine wpAnyH_done (by kernel_rfl) ?_ _); go_wp2_with fail; go_meet; exact HFIN.out
              · go_simp; have hs := LS.s9 (o := #[.int .i64 1, .string bb.name, .slice A1 bb.kids.length c1]) hs rfl; generalize u42.alloc (.cells #[.int .i64 1, .string bb.name, .slice A1 bb.kids.length c1] 29) = u50 at hs ⊢; refine shK hK (held4 HH0.out hs.hB) (h := fun hHeld => ?_); clear hK K
                refine rdJ 0 (h := fun K hK => ?_)
                go_simp; have hs := hs.s0; generalize u50.alloc (.cells #[] 29) = u51 at hs ⊢; refine shK hK (held4 HH0.out hs.hB) (h := fun hHeld => ?_); clear hK K
                refine rdJ 5 (h := fun K hK => ?_)
                refine step_append_src _ (by rfl) _ _ _ (by rfl) wq.heap.size 29 i0 _ 3 48 Tryz.underlying27 hi0 hz0 hz1 hz2 rfl (by omega) _ 0 _ (by rfl) hs.hO _ a.kids.length _ _ (by rfl) (HSA.out.later hs.hB) HOA.out (by unfold maxLen; omega) (by omega) hs.hB.size ?_; intro A7 c7 u52 hO hg hat
                simp only [Nat.zero_add, List.nil_append] at hO ⊢
                have hs := hs.grow hO hg hat hna; clear hO hg hat; refine shK hK (held4 HH0.out hs.hB) (h := fun hHeld => ?_); clear hK K
                refine rdJ 10 (h := fun K hK => ?_)
                refine step_append_src _ (by rfl) _ _ _ (by rfl) wq.heap.size 29 i0 _ 3 48 Tryz.underlying27 hi0 hz0 hz1 hz2 rfl (by omega) _ a.kids.length _ (by rfl) hs.hO _ 1 _ _ (by rfl) (hs.h9 _ rfl).1 HO2.out (by unfold maxLen; omega) (by omega) hs.hB.size ?_; intro A8 c8 u53 hO hg hat
                have hs := hs.grow hO hg hat (Nat.succ_pos _); clear hO hg hat; refine shK hK (held4 HH0.out hs.hB) (h := fun hHeld => ?_); clear hK K
                (refine tkJ 11 _ (h := ?_))
                refine rdJ 13 (h := fun K hK => ?_)
                obtain ⟨hX, hle, hno⟩ := hs.h12 _ rfl
                obtain ⟨r0, r1, r2⟩ := hX.cells; obtain ⟨fz0, fz1, fz2⟩ := hX.free; have HFIN := Lib.hid (long_fin HKB2.out HBQ.out hs.hB hs.hO hX hno hct hTB hle); have HSS := Lib.hid (fun x y z => long_S (x := x) (y := y) (z := z) HH0.out hs.hB hX hle HLT.out); clear hct hTB hX hno hs; go_simp; refine shK hK (HSS.out _ _ _) (h := fun hHeld => ?_); clear hK K
                (refine wpAnyH_done (by kernel_rfl) ?_ _); go_wp2_with fail; go_meet; exact HFIN.out
          case rest =>
            obtain ⟨gx, A8, c8, rfl, g0, g1, g2, hlt, hbl⟩ := hcut
            have HL := Lib.hid hlt; have HBL := Lib.hid hbl
            have hbx := BX.out.later hbl
            obtain ⟨t0, t1, t2⟩ := hbx.cells
            obtain ⟨wl, rfl⟩ : ∃ wl : World, wl = wc := ⟨_, rfl⟩
            generalize (T.mk 7 ⟨#[]⟩ (a.kids ++ [bb])) = M at g0 g1 g2 HL HNO
            clear hlt hbl hbx
            go_upto_region 25 with fail
            (refine wp_region_held_drew (S := (fun Wq => Wq.cell? ⟨w.heap.size, 0, none⟩ = some (.int .i64 t.kind) ∧ Wq.cell? ⟨w.heap.size, 1, none⟩ = some (.string t.name) ∧ Wq.cell? ⟨w.heap.size, 2, none⟩ = some (.slice At t.kids.length ct) ∧ Wq.cell? ⟨gx, 0, none⟩ = some (.int .i64 M.kind) ∧ Wq.cell? ⟨gx, 1, none⟩ = some (.string M.name) ∧ Wq.cell? ⟨gx, 2, none⟩ = some (.slice A8 M.kids.length c8) ∧ Below wl.heap.size wl Wq)) (by kernel_rfl) (show _ ∧ _ ∧ _ ∧ _ ∧ _ ∧ _ ∧ _ from ⟨t0, t1, t2, g0, g1, g2, (Below.refl _ wl).drew⟩) (fun hHeld => ?_))
            (refine tkJ 0 _ (h := ?_))
            (refine tkJ 1 _ (h := ?_))
            (refine rdJ 2 (h := fun K hK => ?_); go_simp; go_at_call 47; refine (HNO.out _ _ (HL.out.later hHeld.2.2.2.2.2.2)).mono ?_; rintro e wz ⟨A6, C6, rfl, hti, hb4⟩; have ht6 := hti.at; refine shK hK (held6 hHeld hb4) (h := fun hHeld => ?_); clear hK K)
            (refine rdJ 3 (h := fun K hK => ?_); go_simp; go_at_call 25; refine (HS.out _ _ _ ((HT.out.later HBL.out).later hHeld.2.2.2.2.2.2) ht6).mono ?_; rintro e wz2 ⟨rfl, hb4⟩; refine shK hK (held6 hHeld hb4) (h := fun hHeld => ?_); clear hK K)
            (refine tkJ 4 _ (h := ?_))
            (refine wpAnyH_done (by kernel_rfl) ?_ _)
            go_wp2_with fail
            go_ret
            exact ⟨rfl, HW.out.trans ((HBL.out.trans (hHeld.2.2.2.2.2.2.mono HBL.out.size)).mono HW.out.size)⟩
        · have hk1' : (kb == 1) = false := beq_eq_false_iff_ne.2 hk1
          have HE2 := Lib.hid (show R = false by rw [← HE.out, if_neg (fun h => hk1 h.2)])
          clear HE
          go_wp2_with fail
          go_ret
          exact ⟨ret_bool HE2.out.symm, HW.out⟩
      · have hk7' : (ka == 7) = false := beq_eq_false_iff_ne.2 hk7
        have HE2 := Lib.hid (show R = false by rw [← HE.out, if_neg (fun h => hk7 h.1)])
        clear HE
        go_wp2_with fail
        go_ret
        exact ⟨ret_bool HE2.out.symm, HW.out⟩
end Go.Proofs.YtihbmgkbipeakaaGreat
