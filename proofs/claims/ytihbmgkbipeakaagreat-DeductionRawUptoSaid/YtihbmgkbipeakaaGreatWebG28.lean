/- Several texts in one: WebRp, WebRq. -/
import Derived.Test.YtihbmgkbipeakaaGreatWebG27
namespace Go.Proofs.YtihbmgkbipeakaaGreat
open Go.RowKit

def lenOfS : Value → Nat
  | .slice _ n _ => n
  | _ => 0
theorem rput1_3 {l next : List T} {t : T} (h : t.kind = 3) : rput1 l next t = putL (putL next (t.kid 0)) (t.kid 1) := by unfold rput1; rw [if_pos h]
theorem rput1_6 {l next : List T} {t : T} (h : t.kind = 6) : rput1 l next t = putL next (t.kid 1) := by unfold rput1; rw [if_neg (by omega), if_pos h]
theorem rput1_5 {l next : List T} {t : T} (h : t.kind = 5) : rput1 l next t = if rbuild ((t.kid 0).bulk + 1) l (t.kid 0) = true then putL next (t.kid 1) else next := by unfold rput1; rw [if_neg (by omega), if_neg (by omega), if_pos h]
theorem rput1_no {l next : List T} {t : T} (h3 : t.kind ≠ 3) (h6 : t.kind ≠ 6) (h5 : t.kind ≠ 5) : rput1 l next t = next := by unfold rput1; rw [if_neg h3, if_neg h6, if_neg h5]
open Classical in
theorem rfold_ok {U l : List T} {K : T → Prop} (h : RInv U K l) (hU : Uni U) (j : Nat) : (∀ x ∈ (l.take j).foldl (rput1 l) l, x ∈ U) ∧ ((l.take j).foldl (rput1 l) l).length ≤ U.length := by
  obtain ⟨a1, a2, a3⟩ := rfold_facts l (l.take j) l h.asc
  have hm : ∀ x ∈ (l.take j).foldl (rput1 l) l, x ∈ U := fun x hx => by
    rcases (a3 x).1 hx with hx | ⟨t, ht, hr⟩
    · exact h.mem x hx
    · exact (rule_an h hU (List.mem_of_mem_take ht) hr).2.1
  exact ⟨hm, nodup_le (List.Pairwise.imp (fun h e => by subst e; exact cmp_irr _ h) a1) hm⟩
theorem rfold_succ (l : List T) (j : Nat) (h : j < l.length) : (l.take (j + 1)).foldl (rput1 l) l = rput1 l ((l.take j).foldl (rput1 l) l) l[j] := by
  rw [List.take_succ_eq_append_getElem h, List.foldl_append]; rfl
theorem rfirst_inv {U K : List T} (hK : ∀ t ∈ K, t ∈ U) (hu : ∀ t ∈ K, t.use = true) : RInv U (· ∈ K) (rfirst K) :=
  ⟨(first_facts K [] List.Pairwise.nil).1, fun x hx => hu x (rfirst_mem.1 hx), fun x hx => hK x (rfirst_mem.1 hx), fun _ hx => An.known (rfirst_mem.1 hx)⟩
theorem kids_two {t : T} (hu : t.use = true) (hk : t.kind = 3 ∨ t.kind = 5 ∨ t.kind = 6) : t.kids.length = 2 := by
  have hk' := T.shapeK (Bool.and_eq_true_iff.1 (T.use_valid hu)).2
  omega
theorem kid_in_bulk {t : T} {i : Nat} (hi : i < t.kids.length) (hb : t.bulk ≤ 1048576) : (t.kid i).bulk ≤ 1048576 := by have := T.kid_bulk hi; omega

set_option maxRecDepth 100000 in
set_option maxHeartbeats 16000000 in
theorem rcloseT {U : List T} (hU : Uni U) (hbU : ∀ t ∈ U, t.bulk ≤ 1048576) (L : List T) (A : Option Addr) (cap : Nat) (w : World) (h : KnownAt w A cap L) (hb : ∀ t ∈ L, t.bulk ≤ 1048576) (hK : ∀ t ∈ cnt L, t ∈ U) :
    Calls Tryz.prog 16 #[.slice A L.length cap] w (PutT (rrun (U.length + 1) (rfirst (cnt L))) w) := by
  have hUs := hU.size
  have HU := Lib.hid hU; have HBU := Lib.hid hbU
  have HIN := Lib.hid (rfirst_inv hK (fun t ht => use_of t ht))
  have HF := Lib.hid (rfirstT w h hb)
  obtain ⟨R, hR⟩ : ∃ R, rrun (U.length + 1) (rfirst (cnt L)) = R := ⟨_, rfl⟩
  have HR := Lib.hid hR
  rw [hR]
  generalize rfirst (cnt L) = L0 at HIN HF HR
  clear hR h hb hK hU hbU
  go_enter Tryz.func16, Tryz.ntmps16
  go_wp2_with fail
  refine HF.out.mono ?_; rintro e w2 ⟨A2, c2, rfl, hk2, hb2⟩
  have HK2 := Lib.hid hk2; have HB2 := Lib.hid hb2
  clear hk2 hb2 HF
  go_upto_region 2 with fail
  go_loopw [3] (fun s3 wr => ∃ (f n : Nat) (Lc : List T) (A3 : Option Addr) (c3 : Nat), s3 = .slice A3 n c3 ∧ n = Lc.length ∧ KnownAt wr A3 c3 Lc ∧ RInv U (· ∈ cnt L) Lc ∧ U.length < f + Lc.length ∧ rrun f Lc = R ∧ Below w2.heap.size w2 wr) (fun s3 _ => U.length - lenOfS s3)
  case atStart => exact ⟨U.length + 1, _, L0, A2, c2, rfl, rfl, HK2.out, HIN.out, by omega, HR.out, Below.refl _ _⟩
  case round =>
    obtain ⟨f, n, Lc, A3, c3, rfl, hn, hkn, hin, hf, hrun, hbw⟩ := hrel
    obtain ⟨wo, rfl⟩ : ∃ wo : World, wo = wr := ⟨_, rfl⟩
    have HKN := Lib.hid hkn; have HINC := Lib.hid hin; have HFF := Lib.hid hf; have HRUN := Lib.hid hrun; have HBW := Lib.hid hbw; have HN := Lib.hid hn
    have hnU := hin.len
    have HNU := Lib.hid hnU
    have HBC := Lib.hid (show ∀ x ∈ Lc, x.bulk ≤ 1048576 from fun x hx => HBU.out x (hin.mem x hx))
    have hnb : n ≤ 1048576 := by omega
    clear hkn hin hf hrun hbw hn hnU
    go_upto_region 4 with fail
    go_loopw [5, 4] (fun s5 s4 wr => ∃ (j m : Nat) (Ln : List T) (A4 : Option Addr) (c4 : Nat), j ≤ n ∧ s5 = .int .i64 j ∧ s4 = .slice A4 m c4 ∧ m = Ln.length ∧ Ln = (Lc.take j).foldl (rput1 Lc) Lc ∧ KnownAt wr A4 c4 Ln ∧ Below wo.heap.size wo wr) (fun s5 _ _ => n - (intOf s5).toNat)
    case atStart => exact ⟨0, n, Lc, A3, c3, Nat.zero_le _, rfl, rfl, HN.out, rfl, HKN.out, Below.refl _ _⟩
    case round =>
      obtain ⟨j, m, Ln, A4, c4, hj, rfl, rfl, hm, hLn, hk4, hbr⟩ := hrel
      have HM := Lib.hid hm; have HLN := Lib.hid hLn; have HK4 := Lib.hid hk4; have HBR := Lib.hid hbr
      by_cases hlt : j < n
      · have hji : (0 : Int) ≤ (j : Int) ∧ (j : Int) < (n : Int) := by omega
        obtain ⟨hji1, hji2⟩ := hji
        have hjl : j < Lc.length := by have := HN.out; omega
        obtain ⟨b, off, A1, c1, rfl, d0, d1, d2, hu⟩ := (HKN.out.later hbr).get hjl
        have hsu := rfold_succ Lc j hjl
        have hok := rfold_ok HINC.out HU.out j
        have hmem := List.getElem_mem hjl
        rw [← hLn] at hsu hok
        generalize Lc[j]'(hjl) = y at d0 d1 d2 hu hsu hmem
        have hyu := HINC.out.use y hmem
        have hyb := HBC.out y hmem
        have HSU := Lib.hid hsu; have HLT := Lib.hid hlt; have HUY := Lib.hid hu
        have HLB := Lib.hid (show ∀ x ∈ Ln, x.bulk ≤ 1048576 from fun x hx => HBU.out x (hok.1 x hx))
        have hml : Ln.length ≤ 1048576 := Nat.le_trans hok.2 hUs
        have HML := Lib.hid hml
        clear hlt hjl hsu hok hmem hm hLn hk4
        by_cases h2 : y.kind = 3 ∨ y.kind = 5 ∨ y.kind = 6
        · have hy2 := kids_two hyu h2
          have hz := hu.inAll
          have hz0 := hz.kid0 (by omega); have hz1 := hz.kid1 (by omega)
          obtain ⟨bk, ok, Ax, cx, hA1, _, e0, e1, e2, hux⟩ := hz0
          obtain ⟨bk', ok', Ay, cy, hA1', _, f0, f1, f2, huy⟩ := hz1
          have hAA := hA1.symm.trans hA1'
          injection hAA with hAA
          injection hAA with hb' ho'
          subst hb'; subst ho'; subst hA1
          rw [hy2] at d2
          have HX := Lib.hid hux.at; have HY := Lib.hid huy.at
          have hbx := kid_in_bulk (t := y) (i := 0) (by omega) hyb
          have hby := kid_in_bulk (t := y) (i := 1) (by omega) hyb
          have HR3 := Lib.hid (fun h => rput1_3 (l := Lc) (next := Ln) (t := y) h); have HR5 := Lib.hid (fun h => rput1_5 (l := Lc) (next := Ln) (t := y) h); have HR6 := Lib.hid (fun h => rput1_6 (l := Lc) (next := Ln) (t := y) h)
          obtain ⟨X, hX⟩ : ∃ X, y.kid 0 = X := ⟨_, rfl⟩
          obtain ⟨Y, hY⟩ : ∃ Y, y.kid 1 = Y := ⟨_, rfl⟩
          rw [hX] at e0 e1 e2 hbx HX HR3 HR5
          rw [hY] at f0 f1 f2 hby HY HR3 HR5 HR6
          have hplus : (putL Ln X).length ≤ 1073741824 := Nat.le_trans (putL_len _ _) (by omega)
          have HXB := Lib.hid (show ∀ x ∈ putL Ln X, x.bulk ≤ 1048576 from fun x hx => by
            unfold putL at hx
            cases hq : scanL Ln X Ln.length with
            | none => rw [hq] at hx; exact HLB.out x hx
            | some q =>
              rw [hq] at hx
              have hx' : x ∈ (Ln.take q ++ [X]) ++ Ln.drop q := hx
              rcases List.mem_append.1 hx' with hx' | hx'
              · rcases List.mem_append.1 hx' with hx' | hx'
                · exact HLB.out x (List.mem_of_mem_take hx')
                · rw [List.mem_singleton] at hx'; rw [hx']; exact hbx
              · exact HLB.out x (List.mem_of_mem_drop hx'))
          have HP1 := Lib.hid (fun W v' (h1 : KnownAt W A4 c4 Ln) (h2 : TermAt W v' X) => rputT W h1 h2 HLB.out hbx (Nat.le_trans hml (by omega)))
          have HP2 := Lib.hid (fun W v' A' c' (h1 : KnownAt W A' c' (putL Ln X)) (h2 : TermAt W v' Y) => rputT W h1 h2 HXB.out hby hplus)
          have HP3 := Lib.hid (fun W v' (h1 : KnownAt W A4 c4 Ln) (h2 : TermAt W v' Y) => rputT W h1 h2 HLB.out hby (Nat.le_trans hml (by omega)))
          have HBD := Lib.hid (fun W v' (h1 : KnownAt W (some ⟨b, off, none⟩) c3 Lc) (h2 : TermAt W v' X) => rbuildT HBC.out (by have := HN.out; omega) (X.bulk + 1) X v' W (Nat.lt_succ_self _) h1 h2 hbx)
          rw [← HM.out] at HP1 HP3
          rw [← HN.out] at HBD
          obtain ⟨k, hk⟩ : ∃ k, y.kind = k := ⟨_, rfl⟩
          rw [hk] at h2 d0 HR3 HR5 HR6
          clear hz hu hux huy hA1' hX hY hyu hyb hk d1
          have HKC := Lib.hid (HKN.out.later hbr)
          rcases h2 with rfl | rfl | rfl
          · replace HR3 := Lib.hid (HSU.out.trans (HR3.out rfl))
            clear HR5 HR6 HSU HBD HP3
            go_upto_region 8 with fail
            (refine wp_region_held_drew (S := (fun Wq => Wq.cell? ⟨b, off + j * 3 + 2, none⟩ = some (.slice (some ⟨bk, ok, none⟩) 2 c1) ∧ Wq.cell? ⟨bk, ok, none⟩ = some (.int .i64 X.kind) ∧ Wq.cell? ⟨bk, ok + 1, none⟩ = some (.string X.name) ∧ Wq.cell? ⟨bk, ok + 2, none⟩ = some (.slice Ax X.kids.length cx) ∧ Wq.cell? ⟨bk, ok + 3, none⟩ = some (.int .i64 Y.kind) ∧ Wq.cell? ⟨bk, ok + 3 + 1, none⟩ = some (.string Y.name) ∧ Wq.cell? ⟨bk, ok + 3 + 2, none⟩ = some (.slice Ay Y.kids.length cy) ∧ Below wr.heap.size wr Wq)) (by kernel_rfl) (show _ ∧ _ ∧ _ ∧ _ ∧ _ ∧ _ ∧ _ ∧ _ from ⟨d2, e0, e1, e2, f0, f1, f2, (Below.refl _ wr).drew⟩) (fun hHeld => ?_))
            ((refine wpAnyH_take (i := 0) (v := ?_) (by simp only [List.getElem?_toArray, List.getElem?_cons_zero]; rfl) (by kernel_rfl) (by kernel_rfl) (by kernel_rfl) (by exact fun _ _ _ h => h) (Or.inl ⟨by rfl, ?_⟩) (by assumption) ?_; rotate_left 1; · (intro w hSw; (try dsimp only at hSw); go_simp; (try with_reducible rfl))); (try simp only [Act.put, List.setIfInBounds_toArray, List.set_cons_zero, List.set_cons_succ]))
            ((refine wpAnyH_take (i := 1) (v := ?_) (by simp only [List.getElem?_toArray, List.getElem?_cons_succ, List.getElem?_cons_zero]; rfl) (by kernel_rfl) (by kernel_rfl) (by kernel_rfl) (by exact fun _ _ _ h => h) (Or.inl ⟨by rfl, ?_⟩) (by assumption) ?_; rotate_left 1; · (intro w hSw; (try dsimp only at hSw); go_simp; (try with_reducible rfl))); (try simp only [Act.put, List.setIfInBounds_toArray, List.set_cons_zero, List.set_cons_succ]))
            ((refine wpAnyH_take (i := 2) (v := ?_) (by simp only [List.getElem?_toArray, List.getElem?_cons_succ, List.getElem?_cons_zero]; rfl) (by kernel_rfl) (by kernel_rfl) (by kernel_rfl) (by exact fun _ _ _ h => h) (Or.inl ⟨by rfl, ?_⟩) (by assumption) ?_; rotate_left 1; · (intro w hSw; (try dsimp only at hSw); go_simp; (try with_reducible rfl))); (try simp only [Act.put, List.setIfInBounds_toArray, List.set_cons_zero, List.set_cons_succ]))
            ((refine wpAnyH_take (i := 3) (v := ?_) (by simp only [List.getElem?_toArray, List.getElem?_cons_succ, List.getElem?_cons_zero]; rfl) (by kernel_rfl) (by kernel_rfl) (by kernel_rfl) (by exact fun _ _ _ h => h) (Or.inl ⟨by rfl, ?_⟩) (by assumption) ?_; rotate_left 1; · (intro w hSw; (try dsimp only at hSw); go_simp; (try with_reducible rfl))); (try simp only [Act.put, List.setIfInBounds_toArray, List.set_cons_zero, List.set_cons_succ]))
            ((refine wpAnyH_take (i := 4) (v := ?_) (by simp only [List.getElem?_toArray, List.getElem?_cons_succ, List.getElem?_cons_zero]; rfl) (by kernel_rfl) (by kernel_rfl) (by kernel_rfl) (by exact fun _ _ _ h => h) (Or.inl ⟨by rfl, ?_⟩) (by assumption) ?_; rotate_left 1; · (intro w hSw; (try dsimp only at hSw); go_simp; (try with_reducible rfl))); (try simp only [Act.put, List.setIfInBounds_toArray, List.set_cons_zero, List.set_cons_succ]))
            ((refine wpAnyH_take (i := 5) (v := ?_) (by simp only [List.getElem?_toArray, List.getElem?_cons_succ, List.getElem?_cons_zero]; rfl) (by kernel_rfl) (by kernel_rfl) (by kernel_rfl) (by exact fun _ _ _ h => h) (Or.inl ⟨by rfl, ?_⟩) (by assumption) ?_; rotate_left 1; · (intro w hSw; (try dsimp only at hSw); go_simp; (try with_reducible rfl))); (try simp only [Act.put, List.setIfInBounds_toArray, List.set_cons_zero, List.set_cons_succ]))
            ((refine wpAnyH_take (i := 6) (v := ?_) (by simp only [List.getElem?_toArray, List.getElem?_cons_succ, List.getElem?_cons_zero]; rfl) (by kernel_rfl) (by kernel_rfl) (by kernel_rfl) (by exact fun _ _ _ h => h) (Or.inl ⟨by rfl, ?_⟩) (by assumption) ?_; rotate_left 1; · (intro w hSw; (try dsimp only at hSw); go_simp; (try with_reducible rfl))); (try simp only [Act.put, List.setIfInBounds_toArray, List.set_cons_zero, List.set_cons_succ]))
            ((refine wpAnyH_take (i := 7) (v := ?_) (by simp only [List.getElem?_toArray, List.getElem?_cons_succ, List.getElem?_cons_zero]; rfl) (by kernel_rfl) (by kernel_rfl) (by kernel_rfl) (by exact fun _ _ _ h => h) (Or.inl ⟨by rfl, ?_⟩) (by assumption) ?_; rotate_left 1; · (intro w hSw; (try dsimp only at hSw); go_simp; (try with_reducible rfl))); (try simp only [Act.put, List.setIfInBounds_toArray, List.set_cons_zero, List.set_cons_succ]))
            ((refine wpAnyH_take (i := 9) (v := ?_) (by simp only [List.getElem?_toArray, List.getElem?_cons_succ, List.getElem?_cons_zero]; rfl) (by kernel_rfl) (by kernel_rfl) (by kernel_rfl) (by exact fun _ _ _ h => h) (Or.inl ⟨by rfl, ?_⟩) (by assumption) ?_; rotate_left 1; · (intro w hSw; (try dsimp only at hSw); go_simp; (try with_reducible rfl))); (try simp only [Act.put, List.setIfInBounds_toArray, List.set_cons_zero, List.set_cons_succ]))
            ((refine wpAnyH_take (i := 10) (v := ?_) (by simp only [List.getElem?_toArray, List.getElem?_cons_succ, List.getElem?_cons_zero]; rfl) (by kernel_rfl) (by kernel_rfl) (by kernel_rfl) (by exact fun _ _ _ h => h) (Or.inl ⟨by rfl, ?_⟩) (by assumption) ?_; rotate_left 1; · (intro w hSw; (try dsimp only at hSw); go_simp; (try with_reducible rfl))); (try simp only [Act.put, List.setIfInBounds_toArray, List.set_cons_zero, List.set_cons_succ]))
            ((refine wpAnyH_take (i := 11) (v := ?_) (by simp only [List.getElem?_toArray, List.getElem?_cons_succ, List.getElem?_cons_zero]; rfl) (by kernel_rfl) (by kernel_rfl) (by kernel_rfl) (by exact fun _ _ _ h => h) (Or.inl ⟨by rfl, ?_⟩) (by assumption) ?_; rotate_left 1; · (intro w hSw; (try dsimp only at hSw); go_simp; (try with_reducible rfl))); (try simp only [Act.put, List.setIfInBounds_toArray, List.set_cons_zero, List.set_cons_succ]))
            ((refine wpAnyH_take (i := 12) (v := ?_) (by simp only [List.getElem?_toArray, List.getElem?_cons_succ, List.getElem?_cons_zero]; rfl) (by kernel_rfl) (by kernel_rfl) (by kernel_rfl) (by exact fun _ _ _ h => h) (Or.inl ⟨by rfl, ?_⟩) (by assumption) ?_; rotate_left 1; · (intro w hSw; (try dsimp only at hSw); go_simp; (try with_reducible rfl))); (try simp only [Act.put, List.setIfInBounds_toArray, List.set_cons_zero, List.set_cons_succ]))
            ((refine wpAnyH_take (i := 13) (v := ?_) (by simp only [List.getElem?_toArray, List.getElem?_cons_succ, List.getElem?_cons_zero]; rfl) (by kernel_rfl) (by kernel_rfl) (by kernel_rfl) (by exact fun _ _ _ h => h) (Or.inl ⟨by rfl, ?_⟩) (by assumption) ?_; rotate_left 1; · (intro w hSw; (try dsimp only at hSw); go_simp; (try with_reducible rfl))); (try simp only [Act.put, List.setIfInBounds_toArray, List.set_cons_zero, List.set_cons_succ]))
            ((refine wpAnyH_take (i := 14) (v := ?_) (by simp only [List.getElem?_toArray, List.getElem?_cons_succ, List.getElem?_cons_zero]; rfl) (by kernel_rfl) (by kernel_rfl) (by kernel_rfl) (by exact fun _ _ _ h => h) (Or.inl ⟨by rfl, ?_⟩) (by assumption) ?_; rotate_left 1; · (intro w hSw; (try dsimp only at hSw); go_simp; (try with_reducible rfl))); (try simp only [Act.put, List.setIfInBounds_toArray, List.set_cons_zero, List.set_cons_succ]))
            ((refine wpAnyH_take (i := 15) (v := ?_) (by simp only [List.getElem?_toArray, List.getElem?_cons_succ, List.getElem?_cons_zero]; rfl) (by kernel_rfl) (by kernel_rfl) (by kernel_rfl) (by exact fun _ _ _ h => h) (Or.inl ⟨by rfl, ?_⟩) (by assumption) ?_; rotate_left 1; · (intro w hSw; (try dsimp only at hSw); go_simp; (try with_reducible rfl))); (try simp only [Act.put, List.setIfInBounds_toArray, List.set_cons_zero, List.set_cons_succ]))
            (refine wpAnyH_ready (rs := [8]) (by kernel_rfl) (by simp) ?_; refine AllReadyH.cons (by simp only [List.getElem?_toArray, List.getElem?_cons_succ, List.getElem?_cons_zero]; rfl) (fun K hK => ?_) AllReadyH.nil; go_simp; go_at_call 45; refine (HP1.out _ _ (HK4.out.later hHeld.2.2.2.2.2.2.2) (HX.out.later hHeld.2.2.2.2.2.2.2)).mono ?_; rintro e wz ⟨A6, c6, rfl, hk6, hb4⟩; refine hK.out _ _ (⟨cell_later hb4 hHeld.1, cell_later hb4 hHeld.2.1, cell_later hb4 hHeld.2.2.1, cell_later hb4 hHeld.2.2.2.1, cell_later hb4 hHeld.2.2.2.2.1, cell_later hb4 hHeld.2.2.2.2.2.1, cell_later hb4 hHeld.2.2.2.2.2.2.1, hHeld.2.2.2.2.2.2.2.trans (hb4.mono hHeld.2.2.2.2.2.2.2.size)⟩) (fun hHeld => ?_); clear hK K; (try simp only [Act.put, List.setIfInBounds_toArray, List.set_cons_zero, List.set_cons_succ]))
            (refine wpAnyH_ready (rs := [16]) (by kernel_rfl) (by simp) ?_; refine AllReadyH.cons (by simp only [List.getElem?_toArray, List.getElem?_cons_succ, List.getElem?_cons_zero]; rfl) (fun K hK => ?_) AllReadyH.nil; go_simp; go_at_call 45; refine (HP2.out _ _ _ _ hk6 (HY.out.later hHeld.2.2.2.2.2.2.2)).mono ?_; rintro e wz2 ⟨A7, c7, rfl, hk7, hb4⟩; refine hK.out _ _ (⟨cell_later hb4 hHeld.1, cell_later hb4 hHeld.2.1, cell_later hb4 hHeld.2.2.1, cell_later hb4 hHeld.2.2.2.1, cell_later hb4 hHeld.2.2.2.2.1, cell_later hb4 hHeld.2.2.2.2.2.1, cell_later hb4 hHeld.2.2.2.2.2.2.1, hHeld.2.2.2.2.2.2.2.trans (hb4.mono hHeld.2.2.2.2.2.2.2.size)⟩) (fun hHeld => ?_); clear hK K; (try simp only [Act.put, List.setIfInBounds_toArray, List.set_cons_zero, List.set_cons_succ]))
            ((refine wpAnyH_take (i := 17) (v := ?_) (by simp only [List.getElem?_toArray, List.getElem?_cons_succ, List.getElem?_cons_zero]; rfl) (by kernel_rfl) (by kernel_rfl) (by kernel_rfl) (by exact fun _ _ _ h => h) (Or.inl ⟨by rfl, ?_⟩) (by assumption) ?_; rotate_left 1; · (intro w hSw; (try dsimp only at hSw); go_simp; (try with_reducible rfl))); (try simp only [Act.put, List.setIfInBounds_toArray, List.set_cons_zero, List.set_cons_succ]))
            (refine wpAnyH_done (by kernel_rfl) ?_ _)
            have HB9 := Lib.hid (HBR.out.trans (hHeld.2.2.2.2.2.2.2.mono HBR.out.size)); have HK9 := Lib.hid hk7
            clear hk7 hk6
            go_wp2_with fail
            go_roundw
            case rel => exact ⟨j + 1, _, _, A7, c7, HLT.out, by go_num, rfl, rfl, HR3.out.symm, HK9.out, HB9.out⟩
            case measure => have := HLT.out; simp [intOf]; omega
          · replace HR5 := Lib.hid (HSU.out.trans (HR5.out rfl))
            clear HR3 HR6 HSU HP1 HP2
            go_wp2_with fail
            refine (HBD.out _ _ HKC.out HX.out).mono ?_; rintro e wz ⟨he, hb4⟩
            have HB4 := Lib.hid (HBR.out.trans (hb4.mono HBR.out.size)); have HK5 := Lib.hid (HK4.out.later hb4); have HY5 := Lib.hid (HY.out.later hb4)
            have d2' := cell_later hb4 d2; have f0' := cell_later hb4 f0; have f2' := cell_later hb4 f2; have f1' := cell_later hb4 f1
            clear hb4 d0 d2 e0 e1 e2 f0 f1 f2
            cases hq : rbuild (X.bulk + 1) Lc X with
            | false =>
              rw [hq] at he HR5; subst he
              rw [if_neg (by decide)] at HR5
              clear hq
              go_wp2_with fail
              go_roundw
              case rel => exact ⟨j + 1, m, Ln, A4, c4, HLT.out, by go_num, rfl, HM.out, HR5.out.symm, HK5.out, HB4.out⟩
              case measure => have := HLT.out; simp [intOf]; omega
            | true =>
              rw [hq] at he HR5; subst he
              rw [if_pos rfl] at HR5
              clear hq
              go_wp2_with fail
              refine (HP3.out _ _ HK5.out HY5.out).mono ?_; rintro e wz2 ⟨A7, c7, rfl, hk7, hb7⟩
              have HB9 := Lib.hid (HB4.out.trans (hb7.mono HB4.out.size)); have HK9 := Lib.hid hk7
              clear hk7 hb7 d2' f0' f1' f2'
              go_wp2_with fail
              go_roundw
              case rel => exact ⟨j + 1, _, _, A7, c7, HLT.out, by go_num, rfl, rfl, HR5.out.symm, HK9.out, HB9.out⟩
              case measure => have := HLT.out; simp [intOf]; omega
          · replace HR6 := Lib.hid (HSU.out.trans (HR6.out rfl))
            clear HR3 HR5 HSU HP1 HP2 HBD
            go_wp2_with fail
            refine (HP3.out _ _ HK4.out HY.out).mono ?_; rintro e wz2 ⟨A7, c7, rfl, hk7, hb7⟩
            have HB9 := Lib.hid (HBR.out.trans (hb7.mono HBR.out.size)); have HK9 := Lib.hid hk7
            clear hk7 hb7 d0 d2 e0 e1 e2 f0 f1 f2
            go_wp2_with fail
            go_roundw
            case rel => exact ⟨j + 1, _, _, A7, c7, HLT.out, by go_num, rfl, rfl, HR6.out.symm, HK9.out, HB9.out⟩
            case measure => have := HLT.out; simp [intOf]; omega
        · have h3 : y.kind ≠ 3 := fun e => h2 (.inl e)
          have h5 : y.kind ≠ 5 := fun e => h2 (.inr (.inl e))
          have h6 : y.kind ≠ 6 := fun e => h2 (.inr (.inr e))
          have HE := Lib.hid (HSU.out.trans (rput1_no h3 h6 h5))
          have g3 : (y.kind == 3) = false := beq_eq_false_iff_ne.2 h3
          have g5 : (y.kind == 5) = false := beq_eq_false_iff_ne.2 h5
          have g6 : (y.kind == 6) = false := beq_eq_false_iff_ne.2 h6
          clear h2 h3 h5 h6 hu hyu
          go_wp2_with fail
          go_roundw
          case rel => exact ⟨j + 1, m, Ln, A4, c4, HLT.out, by go_num, rfl, HM.out, HE.out.symm, HK4.out, HBR.out⟩
          case measure => have := HLT.out; simp [intOf]; omega
      · obtain rfl : j = n := by omega
        have HE := Lib.hid (show Ln = rround Lc by rw [hLn, HN.out, List.take_length]; rfl)
        clear hm hLn hk4 hbr hlt
        obtain ⟨f', hf'⟩ : ∃ f', f = f' + 1 := ⟨f - 1, by have := HFF.out; have := HNU.out; omega⟩
        subst hf'
        have HRR := Lib.hid (show (if (rround Lc).length = Lc.length then Lc else rrun f' (rround Lc)) = R from HRUN.out)
        have HRD := Lib.hid (HINC.out.round HU.out)
        rw [← HE.out] at HRR HRD
        by_cases hee : m = j
        · have hee' : ((m : Int) == (j : Int)) = true := by rw [beq_iff_eq]; omega
          have HL := Lib.hid (show R = Lc by have := HRR.out; rw [if_pos (by have := HM.out; have := HN.out; omega)] at this; exact this.symm)
          subst hee
          go_wp2_with fail
          go_ret
          rw [HL.out]
          exact ⟨A3, c3, by rw [HN.out]; rfl, HKN.out.later HBR.out, HB2.out.trans ((HBW.out.trans (HBR.out.mono HBW.out.size)).mono HB2.out.size)⟩
        · have hee' : ((m : Int) == (j : Int)) = false := by rw [beq_eq_false_iff_ne]; omega
          have hee2 : ¬ ((m : Int) = (j : Int)) := by omega
          have HL := Lib.hid (show rrun f' Ln = R by have := HRR.out; rw [if_neg (by have := HM.out; have := HN.out; omega)] at this; exact this)
          have HGT := Lib.hid (show j < m by have := HRD.out.2.1; have := HM.out; have := HN.out; omega)
          have HLE := Lib.hid (show m ≤ U.length by have := HRD.out.1.len; have := HM.out; omega)
          go_wp2_with fail
          go_roundw
          case rel => exact ⟨f', m, Ln, A4, c4, rfl, HM.out, HK4.out, HRD.out.1, by have := HFF.out; have := HGT.out; have := HM.out; have := HN.out; omega, HL.out, HBW.out.trans (HBR.out.mono HBW.out.size)⟩
          case measure => have := HGT.out; have := HLE.out; simp [lenOfS]; omega
end Go.Proofs.YtihbmgkbipeakaaGreat

namespace Go.Proofs.YtihbmgkbipeakaaGreat
open Go.RowKit

/-- What the reference's Can says. -/
def rcanB (U L : List T) (t : T) : Bool := t.use && rbuild (t.bulk + 1) (rrun (U.length + 1) (rfirst (cnt L))) t
theorem rclose_ok {U L : List T} (hU : Uni U) (hK : ∀ t ∈ cnt L, t ∈ U) : RInv U (· ∈ cnt L) (rrun (U.length + 1) (rfirst (cnt L))) :=
  (rrun_facts hU _ _ (rfirst_inv hK (fun t ht => use_of t ht)) (by omega)).1

set_option maxRecDepth 100000 in
set_option maxHeartbeats 8000000 in
theorem rcanT {U : List T} (hU : Uni U) (hbU : ∀ t ∈ U, t.bulk ≤ 1048576) (L : List T) (A : Option Addr) (cap : Nat) (t : T) (v : Value) (w : World) (h : KnownAt w A cap L) (hT : TermAt w v t) (hb : ∀ t ∈ L, t.bulk ≤ 1048576) (hbt : t.bulk ≤ 1048576) (hK : ∀ t ∈ cnt L, t ∈ U) :
    Calls Tryz.prog 24 #[.slice A L.length cap, v] w fun e w' => e = .returned (.bool (rcanB U L t)) ∧ Below w.heap.size w w' := by
  have hUs := hU.size
  obtain ⟨At, ct, rfl⟩ := hT.inAll.view
  have hw := below_alloc1 w (.cells #[.int .i64 t.kind, .string t.name, .slice At t.kids.length ct] 29)
  have bx := Box.new w (.int .i64 t.kind) (.string t.name) (.slice At t.kids.length ct)
  have HK := Lib.hid (h.later hw); have HT := Lib.hid (hT.later hw); have HW := Lib.hid hw
  have HFIT := Lib.hid (fun W v' (h : TermAt W v' t) => rfit t v' W h hbt)
  have hro := rclose_ok hU hK
  have HCL := Lib.hid (fun W (h : KnownAt W A cap L) => rcloseT hU hbU L A cap W h hb hK)
  have hrc : rcanB U L t = (t.use && rbuild (t.bulk + 1) (rrun (U.length + 1) (rfirst (cnt L))) t) := rfl
  generalize rrun (U.length + 1) (rfirst (cnt L)) = R at hro HCL hrc
  have HBD := Lib.hid (fun W v' A' c' (h1 : KnownAt W A' c' R) (h2 : TermAt W v' t) => rbuildT (fun x hx => hbU x (hro.mem x hx)) (by have := hro.len; omega) (t.bulk + 1) t v' W (Nat.lt_succ_self _) h1 h2 hbt)
  obtain ⟨q, hq⟩ : ∃ q, t.use = q := ⟨_, rfl⟩
  obtain ⟨r, hr⟩ : ∃ r, rbuild (t.bulk + 1) R t = r := ⟨_, rfl⟩
  rw [hq, hr] at hrc
  rw [hq] at HFIT
  rw [hr] at HBD
  have HRC := Lib.hid hrc
  clear h hT hw hb hK hU hbU hro hq hr hrc
  go_enter Tryz.func24, Tryz.ntmps24
  go_upto_region 1 with fail
  generalize w.alloc (.cells #[.int .i64 t.kind, .string t.name, .slice At t.kids.length ct] 29) = w1 at bx HK HT HW ⊢
  obtain ⟨x0, x1, x2⟩ := bx.cells
  clear bx
  cases q with
  | false =>
    (refine wp_region_held_drew (S := (fun Wq => Wq.cell? ⟨w.heap.size, 0, none⟩ = some (.int .i64 t.kind) ∧ Wq.cell? ⟨w.heap.size, 1, none⟩ = some (.string t.name) ∧ Wq.cell? ⟨w.heap.size, 2, none⟩ = some (.slice At t.kids.length ct) ∧ Below w1.heap.size w1 Wq)) (by kernel_rfl) (show _ ∧ _ ∧ _ ∧ _ from ⟨x0, x1, x2, (Below.refl _ w1).drew⟩) (fun hHeld => ?_))
    ((first | (refine wpAnyH_take (i := 0) (v := ?_) (by simp only [List.getElem?_toArray, List.getElem?_cons_zero]; rfl) (by kernel_rfl) (by kernel_rfl) (by kernel_rfl) (by exact fun _ _ _ h => h) (Or.inl ⟨by rfl, ?_⟩) (by assumption) ?_; rotate_left 1; · (intro w hSw; (try dsimp only at hSw); go_simp; (try with_reducible rfl))) | (refine wpAnyH_take (i := 0) (v := undef) (by simp only [List.getElem?_toArray, List.getElem?_cons_zero]; rfl) (by kernel_rfl) (by kernel_rfl) (by kernel_rfl) (by exact fun _ _ _ h => h) (Or.inr ⟨by rfl, rfl⟩) (by assumption) ?_)); (try simp only [Act.put, List.setIfInBounds_toArray, List.set_cons_zero, List.set_cons_succ]))
    (refine wpAnyH_ready (rs := [1]) (by kernel_rfl) (by simp) ?_; refine AllReadyH.cons (by simp only [List.getElem?_toArray, List.getElem?_cons_succ, List.getElem?_cons_zero]; rfl) (fun K hK => ?_) AllReadyH.nil; go_simp; go_at_call 41; refine (HFIT.out _ _ (HT.out.later hHeld.2.2.2)).mono ?_; rintro e wz ⟨rfl, hb4⟩; refine hK.out _ _ (⟨cell_later hb4 hHeld.1, cell_later hb4 hHeld.2.1, cell_later hb4 hHeld.2.2.1, hHeld.2.2.2.trans (hb4.mono hHeld.2.2.2.size)⟩) (fun hHeld => ?_); clear hK K; (try simp only [Act.put, List.setIfInBounds_toArray, List.set_cons_zero, List.set_cons_succ]))
    ((first | (refine wpAnyH_take (i := 2) (v := ?_) (by simp only [List.getElem?_toArray, List.getElem?_cons_succ, List.getElem?_cons_zero]; rfl) (by kernel_rfl) (by kernel_rfl) (by kernel_rfl) (by exact fun _ _ _ h => h) (Or.inl ⟨by rfl, ?_⟩) (by assumption) ?_; rotate_left 1; · (intro w hSw; (try dsimp only at hSw); go_simp; (try with_reducible rfl))) | (refine wpAnyH_take (i := 2) (v := undef) (by simp only [List.getElem?_toArray, List.getElem?_cons_succ, List.getElem?_cons_zero]; rfl) (by kernel_rfl) (by kernel_rfl) (by kernel_rfl) (by exact fun _ _ _ h => h) (Or.inr ⟨by rfl, rfl⟩) (by assumption) ?_)); (try simp only [Act.put, List.setIfInBounds_toArray, List.set_cons_zero, List.set_cons_succ]))
    ((first | (refine wpAnyH_take (i := 3) (v := ?_) (by simp only [List.getElem?_toArray, List.getElem?_cons_succ, List.getElem?_cons_zero]; rfl) (by kernel_rfl) (by kernel_rfl) (by kernel_rfl) (by exact fun _ _ _ h => h) (Or.inl ⟨by rfl, ?_⟩) (by assumption) ?_; rotate_left 1; · (intro w hSw; (try dsimp only at hSw); go_simp; (try with_reducible rfl))) | (refine wpAnyH_take (i := 3) (v := undef) (by simp only [List.getElem?_toArray, List.getElem?_cons_succ, List.getElem?_cons_zero]; rfl) (by kernel_rfl) (by kernel_rfl) (by kernel_rfl) (by exact fun _ _ _ h => h) (Or.inr ⟨by rfl, rfl⟩) (by assumption) ?_)); (try simp only [Act.put, List.setIfInBounds_toArray, List.set_cons_zero, List.set_cons_succ]))
    ((first | (refine wpAnyH_take (i := 4) (v := ?_) (by simp only [List.getElem?_toArray, List.getElem?_cons_succ, List.getElem?_cons_zero]; rfl) (by kernel_rfl) (by kernel_rfl) (by kernel_rfl) (by exact fun _ _ _ h => h) (Or.inl ⟨by rfl, ?_⟩) (by assumption) ?_; rotate_left 1; · (intro w hSw; (try dsimp only at hSw); go_simp; (try with_reducible rfl))) | (refine wpAnyH_take (i := 4) (v := undef) (by simp only [List.getElem?_toArray, List.getElem?_cons_succ, List.getElem?_cons_zero]; rfl) (by kernel_rfl) (by kernel_rfl) (by kernel_rfl) (by exact fun _ _ _ h => h) (Or.inr ⟨by rfl, rfl⟩) (by assumption) ?_)); (try simp only [Act.put, List.setIfInBounds_toArray, List.set_cons_zero, List.set_cons_succ]))
    ((first | (refine wpAnyH_take (i := 5) (v := ?_) (by simp only [List.getElem?_toArray, List.getElem?_cons_succ, List.getElem?_cons_zero]; rfl) (by kernel_rfl) (by kernel_rfl) (by kernel_rfl) (by exact fun _ _ _ h => h) (Or.inl ⟨by rfl, ?_⟩) (by assumption) ?_; rotate_left 1; · (intro w hSw; (try dsimp only at hSw); go_simp; (try with_reducible rfl))) | (refine wpAnyH_take (i := 5) (v := undef) (by simp only [List.getElem?_toArray, List.getElem?_cons_succ, List.getElem?_cons_zero]; rfl) (by kernel_rfl) (by kernel_rfl) (by kernel_rfl) (by exact fun _ _ _ h => h) (Or.inr ⟨by rfl, rfl⟩) (by assumption) ?_)); (try simp only [Act.put, List.setIfInBounds_toArray, List.set_cons_zero, List.set_cons_succ]))
    ((first | (refine wpAnyH_take (i := 6) (v := ?_) (by simp only [List.getElem?_toArray, List.getElem?_cons_succ, List.getElem?_cons_zero]; rfl) (by kernel_rfl) (by kernel_rfl) (by kernel_rfl) (by exact fun _ _ _ h => h) (Or.inl ⟨by rfl, ?_⟩) (by assumption) ?_; rotate_left 1; · (intro w hSw; (try dsimp only at hSw); go_simp; (try with_reducible rfl))) | (refine wpAnyH_take (i := 6) (v := undef) (by simp only [List.getElem?_toArray, List.getElem?_cons_succ, List.getElem?_cons_zero]; rfl) (by kernel_rfl) (by kernel_rfl) (by kernel_rfl) (by exact fun _ _ _ h => h) (Or.inr ⟨by rfl, rfl⟩) (by assumption) ?_)); (try simp only [Act.put, List.setIfInBounds_toArray, List.set_cons_zero, List.set_cons_succ]))
    ((first | (refine wpAnyH_take (i := 7) (v := ?_) (by simp only [List.getElem?_toArray, List.getElem?_cons_succ, List.getElem?_cons_zero]; rfl) (by kernel_rfl) (by kernel_rfl) (by kernel_rfl) (by exact fun _ _ _ h => h) (Or.inl ⟨by rfl, ?_⟩) (by assumption) ?_; rotate_left 1; · (intro w hSw; (try dsimp only at hSw); go_simp; (try with_reducible rfl))) | (refine wpAnyH_take (i := 7) (v := undef) (by simp only [List.getElem?_toArray, List.getElem?_cons_succ, List.getElem?_cons_zero]; rfl) (by kernel_rfl) (by kernel_rfl) (by kernel_rfl) (by exact fun _ _ _ h => h) (Or.inr ⟨by rfl, rfl⟩) (by assumption) ?_)); (try simp only [Act.put, List.setIfInBounds_toArray, List.set_cons_zero, List.set_cons_succ]))
    ((first | (refine wpAnyH_take (i := 8) (v := ?_) (by simp only [List.getElem?_toArray, List.getElem?_cons_succ, List.getElem?_cons_zero]; rfl) (by kernel_rfl) (by kernel_rfl) (by kernel_rfl) (by exact fun _ _ _ h => h) (Or.inl ⟨by rfl, ?_⟩) (by assumption) ?_; rotate_left 1; · (intro w hSw; (try dsimp only at hSw); go_simp; (try with_reducible rfl))) | (refine wpAnyH_take (i := 8) (v := undef) (by simp only [List.getElem?_toArray, List.getElem?_cons_succ, List.getElem?_cons_zero]; rfl) (by kernel_rfl) (by kernel_rfl) (by kernel_rfl) (by exact fun _ _ _ h => h) (Or.inr ⟨by rfl, rfl⟩) (by assumption) ?_)); (try simp only [Act.put, List.setIfInBounds_toArray, List.set_cons_zero, List.set_cons_succ]))
    (refine wpAnyH_done (by kernel_rfl) ?_ _)
    go_wp2_with fail
    go_ret
    exact ⟨ret_bool (by rw [HRC.out]; rfl), HW.out.trans (hHeld.2.2.2.mono HW.out.size)⟩
  | true =>
    (refine wp_region_held_drew (S := (fun Wq => Wq.cell? ⟨w.heap.size, 0, none⟩ = some (.int .i64 t.kind) ∧ Wq.cell? ⟨w.heap.size, 1, none⟩ = some (.string t.name) ∧ Wq.cell? ⟨w.heap.size, 2, none⟩ = some (.slice At t.kids.length ct) ∧ Below w1.heap.size w1 Wq)) (by kernel_rfl) (show _ ∧ _ ∧ _ ∧ _ from ⟨x0, x1, x2, (Below.refl _ w1).drew⟩) (fun hHeld => ?_))
    ((refine wpAnyH_take (i := 0) (v := ?_) (by simp only [List.getElem?_toArray, List.getElem?_cons_zero]; rfl) (by kernel_rfl) (by kernel_rfl) (by kernel_rfl) (by exact fun _ _ _ h => h) (Or.inl ⟨by rfl, ?_⟩) (by assumption) ?_; rotate_left 1; · (intro w hSw; (try dsimp only at hSw); go_simp; (try with_reducible rfl))); (try simp only [Act.put, List.setIfInBounds_toArray, List.set_cons_zero, List.set_cons_succ]))
    (refine wpAnyH_ready (rs := [1]) (by kernel_rfl) (by simp) ?_; refine AllReadyH.cons (by simp only [List.getElem?_toArray, List.getElem?_cons_succ, List.getElem?_cons_zero]; rfl) (fun K hK => ?_) AllReadyH.nil; go_simp; go_at_call 41; refine (HFIT.out _ _ (HT.out.later hHeld.2.2.2)).mono ?_; rintro e wz ⟨rfl, hb4⟩; refine hK.out _ _ (⟨cell_later hb4 hHeld.1, cell_later hb4 hHeld.2.1, cell_later hb4 hHeld.2.2.1, hHeld.2.2.2.trans (hb4.mono hHeld.2.2.2.size)⟩) (fun hHeld => ?_); clear hK K; (try simp only [Act.put, List.setIfInBounds_toArray, List.set_cons_zero, List.set_cons_succ]))
    ((refine wpAnyH_take (i := 2) (v := ?_) (by simp only [List.getElem?_toArray, List.getElem?_cons_succ, List.getElem?_cons_zero]; rfl) (by kernel_rfl) (by kernel_rfl) (by kernel_rfl) (by exact fun _ _ _ h => h) (Or.inl ⟨by rfl, ?_⟩) (by assumption) ?_; rotate_left 1; · (intro w hSw; (try dsimp only at hSw); go_simp; (try with_reducible rfl))); (try simp only [Act.put, List.setIfInBounds_toArray, List.set_cons_zero, List.set_cons_succ]))
    ((refine wpAnyH_take (i := 3) (v := ?_) (by simp only [List.getElem?_toArray, List.getElem?_cons_succ, List.getElem?_cons_zero]; rfl) (by kernel_rfl) (by kernel_rfl) (by kernel_rfl) (by exact fun _ _ _ h => h) (Or.inl ⟨by rfl, ?_⟩) (by assumption) ?_; rotate_left 1; · (intro w hSw; (try dsimp only at hSw); go_simp; (try with_reducible rfl))); (try simp only [Act.put, List.setIfInBounds_toArray, List.set_cons_zero, List.set_cons_succ]))
    ((refine wpAnyH_take (i := 5) (v := ?_) (by simp only [List.getElem?_toArray, List.getElem?_cons_succ, List.getElem?_cons_zero]; rfl) (by kernel_rfl) (by kernel_rfl) (by kernel_rfl) (by exact fun _ _ _ h => h) (Or.inl ⟨by rfl, ?_⟩) (by assumption) ?_; rotate_left 1; · (intro w hSw; (try dsimp only at hSw); go_simp; (try with_reducible rfl))); (try simp only [Act.put, List.setIfInBounds_toArray, List.set_cons_zero, List.set_cons_succ]))
    (refine wpAnyH_ready (rs := [4]) (by kernel_rfl) (by simp) ?_; refine AllReadyH.cons (by simp only [List.getElem?_toArray, List.getElem?_cons_succ, List.getElem?_cons_zero]; rfl) (fun K hK => ?_) AllReadyH.nil; go_simp; go_at_call 16; refine (HCL.out _ (HK.out.later hHeld.2.2.2)).mono ?_; rintro e wz2 ⟨A6, c6, rfl, hk6, hb4⟩; refine hK.out _ _ (⟨cell_later hb4 hHeld.1, cell_later hb4 hHeld.2.1, cell_later hb4 hHeld.2.2.1, hHeld.2.2.2.trans (hb4.mono hHeld.2.2.2.size)⟩) (fun hHeld => ?_); clear hK K; (try simp only [Act.put, List.setIfInBounds_toArray, List.set_cons_zero, List.set_cons_succ]))
    (refine wpAnyH_ready (rs := [6]) (by kernel_rfl) (by simp) ?_; refine AllReadyH.cons (by simp only [List.getElem?_toArray, List.getElem?_cons_succ, List.getElem?_cons_zero]; rfl) (fun K hK => ?_) AllReadyH.nil; go_simp; go_at_call 46; refine (HBD.out _ _ _ _ hk6 (HT.out.later hHeld.2.2.2)).mono ?_; rintro e wz3 ⟨rfl, hb4⟩; refine hK.out _ _ (⟨cell_later hb4 hHeld.1, cell_later hb4 hHeld.2.1, cell_later hb4 hHeld.2.2.1, hHeld.2.2.2.trans (hb4.mono hHeld.2.2.2.size)⟩) (fun hHeld => ?_); clear hK K; (try simp only [Act.put, List.setIfInBounds_toArray, List.set_cons_zero, List.set_cons_succ]))
    ((refine wpAnyH_take (i := 7) (v := ?_) (by simp only [List.getElem?_toArray, List.getElem?_cons_succ, List.getElem?_cons_zero]; rfl) (by kernel_rfl) (by kernel_rfl) (by kernel_rfl) (by exact fun _ _ _ h => h) (Or.inl ⟨by rfl, ?_⟩) (by assumption) ?_; rotate_left 1; · (intro w hSw; (try dsimp only at hSw); go_simp; (try with_reducible rfl))); (try simp only [Act.put, List.setIfInBounds_toArray, List.set_cons_zero, List.set_cons_succ]))
    ((refine wpAnyH_take (i := 8) (v := ?_) (by simp only [List.getElem?_toArray, List.getElem?_cons_succ, List.getElem?_cons_zero]; rfl) (by kernel_rfl) (by kernel_rfl) (by kernel_rfl) (by exact fun _ _ _ h => h) (Or.inl ⟨by rfl, ?_⟩) (by assumption) ?_; rotate_left 1; · (intro w hSw; (try dsimp only at hSw); go_simp; (try with_reducible rfl))); (try simp only [Act.put, List.setIfInBounds_toArray, List.set_cons_zero, List.set_cons_succ]))
    (refine wpAnyH_done (by kernel_rfl) ?_ _)
    go_wp2_with fail
    go_ret
    exact ⟨ret_bool (by rw [HRC.out]; rfl), HW.out.trans (hHeld.2.2.2.mono HW.out.size)⟩

set_option maxRecDepth 100000 in
set_option maxHeartbeats 4000000 in
theorem rlightT {L : List T} {A : Option Addr} {cap : Nat} (w : World) (h : KnownAt w A cap L) (hb : ∀ x ∈ L, x.bulk ≤ 1048576) :
    Calls Tryz.prog 12 #[.slice A L.length cap] w fun e w' => (∃ q : Bool, e = .returned (.bool q)) ∧ Below w.heap.size w w' := by
  have HK := Lib.hid h; have HBK := Lib.hid hb
  have hcap := h.cap_le
  unfold maxLen at hcap
  clear h hb
  go_enter Tryz.func12, Tryz.ntmps12
  go_upto_region 3 with fail
  go_loopw [4, 3] (fun s4 s3 wr => ∃ (j : Nat) (z : Int), j ≤ L.length ∧ s4 = .int .i64 j ∧ s3 = .int .i64 z ∧ Below w.heap.size w wr) (fun s4 _ _ => L.length - (intOf s4).toNat)
  case atStart => exact ⟨0, _, Nat.zero_le _, rfl, rfl, Below.refl _ _⟩
  case round =>
    obtain ⟨j, z, hj, rfl, rfl, hbw⟩ := hrel
    have HBW := Lib.hid hbw
    by_cases hlt : j < L.length
    · have hji : (0 : Int) ≤ (j : Int) ∧ (j : Int) < (L.length : Int) := by omega
      obtain ⟨hji1, hji2⟩ := hji
      obtain ⟨b, off, A1, c1, rfl, d0, d1, d2, hu⟩ := (HK.out.later hbw).get hlt
      have hbx := HBK.out (L[j]'(hlt)) (List.getElem_mem hlt)
      generalize L[j]'(hlt) = y at d0 d1 d2 hu hbx
      have HU := Lib.hid hu; have HLT := Lib.hid hlt
      clear hu hlt hbw
      go_wp2_with fail
      refine (rsize (y.bulk + 1) y _ _ (Nat.lt_succ_self _) HU.out hbx).mono ?_; rintro e w5 ⟨rfl, hb5⟩
      have HB5 := Lib.hid (HBW.out.trans (hb5.mono HBW.out.size))
      clear hb5 d0 d1 d2
      go_wp2_with fail
      go_roundw
      case rel => exact ⟨j + 1, _, HLT.out, by go_num, rfl, HB5.out⟩
      case measure => have := HLT.out; simp [intOf]; omega
    · go_wp2_with fail
      go_ret
      exact ⟨⟨_, rfl⟩, HBW.out⟩
end Go.Proofs.YtihbmgkbipeakaaGreat
