/- Several texts in one: WebTi, WebPt. -/
import Derived.Test.YtihbmgkbipeakaaGreatWebG16
import Derived.Test.YtihbmgkbipeakaaGreatWebG14
namespace Go.Proofs.YtihbmgkbipeakaaGreat

/-- What can be taken apart is taken apart. -/
def TookT (P : T → Prop) (t : T) : Prop := (t.kind = 3 → P (t.kid 0) ∧ P (t.kid 1)) ∧ (t.kind = 6 → P (t.kid 1)) ∧ (t.kind = 5 → Syn P (t.kid 0) → P (t.kid 1))
def Took (P : T → Prop) : Prop := ∀ t, P t → TookT P t
/-- The least set of which all that can be taken apart is taken apart. -/
def An (K : T → Prop) (t : T) : Prop := ∀ Q : T → Prop, Took Q → (∀ x, K x → Q x) → Q t
theorem TookT.iff {P Q : T → Prop} (h : ∀ x, P x ↔ Q x) {t : T} (ht : TookT P t) : TookT Q t :=
  ⟨fun hk => ⟨(h _).1 (ht.1 hk).1, (h _).1 (ht.1 hk).2⟩, fun hk => (h _).1 (ht.2.1 hk), fun hk hs => (h _).1 (ht.2.2 hk ((Syn.iff h _).2 hs))⟩
theorem An.known {K : T → Prop} {t : T} (h : K t) : An K t := fun _ _ hQ => hQ t h
theorem An.mono {K K' : T → Prop} (h : ∀ t, K t → K' t) {t : T} (ha : An K t) : An K' t := fun Q hQ hK => ha Q hQ fun x hx => hK x (h x hx)
theorem an_took (K : T → Prop) : Took (An K) := fun t ht => by
  refine ⟨fun hk => ⟨fun Q hQ hK => ((hQ t (ht Q hQ hK)).1 hk).1, fun Q hQ hK => ((hQ t (ht Q hQ hK)).1 hk).2⟩, fun hk Q hQ hK => (hQ t (ht Q hQ hK)).2.1 hk, fun hk hs Q hQ hK => (hQ t (ht Q hQ hK)).2.2 hk (hs.mono fun x hx => hx Q hQ hK)⟩
namespace Wb
theorem part_mark (W : List Stp) (i : Nat) (hi : i < W.length) (x : T) : Part (mark W i) x ↔ Part W x ∨ x = W[i].t := by
  constructor
  · rintro ⟨s, hs, h1, h2⟩
    obtain ⟨j, hj, rfl⟩ := List.getElem_of_mem hs
    have h3 : j < W.length := by rwa [mark_len] at hj
    have hm := mark_t W i j hj h3
    by_cases e : i = j
    · subst e; right; rw [← h2, hm.1]
    · left
      refine ⟨W[j], List.getElem_mem h3, ?_, by rw [← h2, hm.1]⟩
      have := hm.2.2.2
      rw [if_neg e] at this
      rw [← this]; exact h1
  · intro h
    have key : ∀ j (h3 : j < W.length), (W[j].part = true ∨ i = j) → Part (mark W i) W[j].t := fun j h3 hp => by
      have hj : j < (mark W i).length := by rw [mark_len]; exact h3
      have hm := mark_t W i j hj h3
      refine ⟨(mark W i)[j], List.getElem_mem hj, ?_, hm.1⟩
      rw [hm.2.2.2]
      by_cases e : i = j
      · rw [if_pos e]
      · rw [if_neg e]; rcases hp with hp | hp
        · exact hp
        · exact absurd hp e
    rcases h with ⟨s, hs, h1, h2⟩ | h
    · obtain ⟨j, h3, rfl⟩ := List.getElem_of_mem hs
      rw [← h2]; exact key j h3 (.inl h1)
    · rw [h]; exact key i hi (.inr rfl)
theorem add_at {U : List T} (hU : Uni U) {W : List Stp} (hW : Inv U W) {t : T} (ht : t ∈ U) (how : Nat) (frm : List Nat) : ∃ h : (add W t how frm).2 < (add W t how frm).1.length, (add W t how frm).1[(add W t how frm).2].t = t := by
  cases hf : find W t with
  | some i =>
    obtain ⟨hi, e⟩ := find_eq hU hW ht hf
    rw [add_some hf]; exact ⟨hi, e⟩
  | none => rw [add_none hf]; exact ⟨by simp, by simp⟩
/-- Taking a term: it is among what was taken apart; 'false' where it was before. -/
theorem part_take {U : List T} (hU : Uni U) {W : List Stp} (hW : Inv U W) {t : T} (ht : t ∈ U) (how : Nat) (frm : List Nat) :
    (∀ x, Part (take W t how frm).1 x ↔ Part W x ∨ x = t) ∧ ((take W t how frm).2 = false → Part W t ∧ (take W t how frm).1 = (add W t how frm).1) := by
  obtain ⟨hi, e⟩ := add_at hU hW ht how frm
  have hp := part_at hi
  unfold take
  split
  · rename_i h
    rw [hp] at h
    have hpt : Part W t := (part_add W t how frm t).1 ⟨_, List.getElem_mem hi, h, e⟩
    refine ⟨fun x => (part_add _ _ _ _ x).trans ⟨.inl, fun h => ?_⟩, fun _ => ⟨hpt, rfl⟩⟩
    rcases h with h | h
    · exact h
    · rw [h]; exact hpt
  · refine ⟨fun x => ?_, fun h => by cases h⟩
    rw [part_mark _ _ hi, e, part_add]
/-- A step is taken apart: what comes of it. -/
theorem apart_part {U : List T} (hU : Uni U) {W : List Stp} (hW : Inv U W) {i : Nat} (hi : i < W.length) :
    (∀ x, Part W x → Part (apart W i).1 x) ∧ (∀ Q, Took Q → Sound Q W → (∀ x, Part W x → Q x) → Q W[i].t → Sound Q (apart W i).1 ∧ ∀ x, Part (apart W i).1 x → Q x) ∧
    ((apart W i).2 = false → Sound (Part W) W → W <+: (apart W i).1 ∧ (∀ x, Part (apart W i).1 x ↔ Part W x) ∧ TookT (Part W) W[i].t) := by
  have hm : W[i].t ∈ U := hW.mem _ (List.getElem_mem hi)
  have hs := T.shapeK (Bool.and_eq_true_iff.1 (hU.ok _ hm)).2
  unfold apart
  rw [term_at hi]
  generalize W[i].t = t at hm hs ⊢
  dsimp only
  split
  · rename_i h3
    have k0 := hU.kid t hm 0 (by omega)
    have k1 := hU.kid t hm 1 (by omega)
    obtain ⟨a1, a2⟩ := part_take hU hW k0 2 [i]
    have hW1 := take_inv 2 [i] hW k0
    obtain ⟨b1, b2⟩ := part_take hU hW1 k1 3 [i]
    refine ⟨fun x hx => (b1 x).2 (.inl ((a1 x).2 (.inl hx))), fun Q hQ hS hP ht => ?_, fun hf hS => ?_⟩
    · obtain ⟨q0, q1⟩ := (hQ t ht).1 h3
      refine ⟨(hS.take (.base q0) 2 [i]).take (.base q1) 3 [i], fun x hx => ?_⟩
      rcases (b1 x).1 hx with h | h
      · rcases (a1 x).1 h with h | h
        · exact hP x h
        · rw [h]; exact q0
      · rw [h]; exact q1
    · rw [Bool.or_eq_false_iff] at hf
      obtain ⟨c1, c2⟩ := a2 hf.2
      obtain ⟨d1, d2⟩ := b2 hf.1
      have e1 : Part W (t.kid 1) := by
        rcases (a1 _).1 d1 with h | h
        · exact h
        · rw [h]; exact c1
      refine ⟨?_, fun x => (b1 x).trans ⟨fun h => ?_, fun h => .inl ((a1 x).2 (.inl h))⟩, fun _ => ⟨c1, e1⟩, fun h => by omega, fun h => by omega⟩
      · rw [d2]
        refine List.IsPrefix.trans ?_ (add_pre _ _ _ _).1
        rw [c2]; exact (add_pre _ _ _ _).1
      · rcases h with h | h
        · rcases (a1 x).1 h with h | h
          · exact h
          · rw [h]; exact c1
        · rw [h]; exact e1
  · split
    · rename_i h6
      have k1 := hU.kid t hm 1 (by omega)
      obtain ⟨a1, a2⟩ := part_take hU hW k1 5 [i]
      refine ⟨fun x hx => (a1 x).2 (.inl hx), fun Q hQ hS hP ht => ?_, fun hf hS => ?_⟩
      · have q1 := (hQ t ht).2.1 h6
        refine ⟨hS.take (.base q1) 5 [i], fun x hx => ?_⟩
        rcases (a1 x).1 hx with h | h
        · exact hP x h
        · rw [h]; exact q1
      · obtain ⟨c1, c2⟩ := a2 hf
        refine ⟨by rw [c2]; exact (add_pre _ _ _ _).1, fun x => (a1 x).trans ⟨fun h => ?_, .inl⟩, fun h => by omega, fun _ => c1, fun h => by omega⟩
        rcases h with h | h
        · exact h
        · rw [h]; exact c1
    · split
      · rename_i h5
        have k0 := hU.kid t hm 0 (by omega)
        have k1 := hU.kid t hm 1 (by omega)
        split
        · rename_i ha
          refine ⟨fun x hx => hx, fun Q hQ hS hP ht => ⟨hS, hP⟩, fun _ hS => ⟨List.prefix_refl _, fun x => Iff.rfl, fun h => by omega, fun h => by omega, fun _ _ => ?_⟩⟩
          cases hf : find W (t.kid 1) with
          | none => rw [hf] at ha; cases ha
          | some m =>
            rw [hf] at ha
            obtain ⟨hm', e⟩ := find_eq hU hW k1 hf
            have ha' : partAt W m = true := ha
            rw [part_at hm'] at ha'
            exact ⟨_, List.getElem_mem hm', ha', e⟩
        · obtain ⟨b1, b2, _⟩ := bld_inv hU k0 hW
          have hpb : ∀ x, Part (bld W (t.kid 0)).1 x ↔ Part W x := par_build _ _ W
          split
          · rename_i hn
            refine ⟨fun x hx => (hpb x).2 hx, fun Q hQ hS hP ht => ⟨(build_syn hU Q _ _ k0 W hW hS).1, fun x hx => hP x ((hpb x).1 hx)⟩, fun _ hS => ⟨b2, hpb, fun h => by omega, fun h => by omega, fun _ hk => ?_⟩⟩
            obtain ⟨r, hr⟩ := (bld_iff hU k0 hW hS).2 hk
            rw [hr] at hn; cases hn
          · rename_i k hk
            obtain ⟨a1, a2⟩ := part_take hU b1 k1 4 [i, k]
            refine ⟨fun x hx => (a1 x).2 (.inl ((hpb x).2 hx)), fun Q hQ hS hP ht => ?_, fun hf hS => ?_⟩
            · obtain ⟨c1, c2⟩ := build_syn hU Q _ _ k0 W hW hS
              have q1 := (hQ t ht).2.2 h5 (c2 k hk)
              refine ⟨Sound.take c1 (.base q1) 4 [i, k], fun x hx => ?_⟩
              rcases (a1 x).1 hx with h | h
              · exact hP x ((hpb x).1 h)
              · rw [h]; exact q1
            · obtain ⟨c1, c2⟩ := a2 hf
              have c3 := (hpb _).1 c1
              refine ⟨by rw [c2]; exact b2.trans (add_pre _ _ _ _).1, fun x => (a1 x).trans ⟨fun h => ?_, fun h => .inl ((hpb x).2 h)⟩, fun h => by omega, fun h => by omega, fun _ _ => c3⟩
              rcases h with h | h
              · exact (hpb x).1 h
              · rw [h]; exact c3
      · refine ⟨fun x hx => hx, fun Q hQ hS hP ht => ⟨hS, hP⟩, fun _ hS => ⟨List.prefix_refl _, fun x => Iff.rfl, fun h => by omega, fun h => by omega, fun h => by omega⟩⟩
/-- All steps can be put together of what was taken apart. -/
theorem apart_sound {U : List T} (hU : Uni U) {W : List Stp} (hW : Inv U W) {i : Nat} (hi : i < W.length) (Q : T → Prop) (hQ : ∀ x, Part (apart W i).1 x → Q x) (hS : Sound Q W) : Sound Q (apart W i).1 := by
  have hm : W[i].t ∈ U := hW.mem _ (List.getElem_mem hi)
  have hs := T.shapeK (Bool.and_eq_true_iff.1 (hU.ok _ hm)).2
  unfold apart at hQ ⊢
  rw [term_at hi] at hQ ⊢
  generalize W[i].t = t at hm hs hQ ⊢
  dsimp only at hQ ⊢
  split
  · rename_i h3
    rw [if_pos h3] at hQ
    have k0 := hU.kid t hm 0 (by omega)
    have k1 := hU.kid t hm 1 (by omega)
    have a1 := (part_take hU hW k0 2 [i]).1
    have b1 := (part_take hU (take_inv 2 [i] hW k0) k1 3 [i]).1
    exact (hS.take (.base (hQ _ ((b1 _).2 (.inl ((a1 _).2 (.inr rfl)))))) 2 [i]).take (.base (hQ _ ((b1 _).2 (.inr rfl)))) 3 [i]
  · rename_i h3
    rw [if_neg h3] at hQ
    split
    · rename_i h6
      rw [if_pos h6] at hQ
      have k1 := hU.kid t hm 1 (by omega)
      have a1 := (part_take hU hW k1 5 [i]).1
      exact hS.take (.base (hQ _ ((a1 _).2 (.inr rfl)))) 5 [i]
    · rename_i h6
      rw [if_neg h6] at hQ
      split
      · rename_i h5
        rw [if_pos h5] at hQ
        have k0 := hU.kid t hm 0 (by omega)
        have k1 := hU.kid t hm 1 (by omega)
        split
        · exact hS
        · rename_i ha
          rw [if_neg ha] at hQ
          obtain ⟨b1, b2, _⟩ := bld_inv hU k0 hW
          have c1 : Sound Q (bld W (t.kid 0)).1 := (build_syn hU Q _ _ k0 W hW hS).1
          cases hk : (bld W (t.kid 0)).2 with
          | none => exact c1
          | some k =>
            rw [hk] at hQ
            have a1 := (part_take hU b1 k1 4 [i, k]).1
            exact Sound.take c1 (.base (hQ _ ((a1 _).2 (.inr rfl)))) 4 [i, k]
      · exact hS
theorem rnd_true : ∀ (f i : Nat) (W : List Stp), (rnd f i true W).2 = true
  | 0, _, _ => rfl
  | f + 1, i, W => by
    simp only [rnd]
    split
    · split
      · rw [Bool.true_or]; exact rnd_true f _ _
      · exact rnd_true f _ _
    · rfl
/-- A round. -/
theorem rnd_part {U : List T} (hU : Uni U) : ∀ (f i : Nat) (m : Bool) (W : List Stp), Inv U W → Sound (Part W) W →
    Inv U (rnd f i m W).1 ∧ Sound (Part (rnd f i m W).1) (rnd f i m W).1 ∧ (∀ x, Part W x → Part (rnd f i m W).1 x) ∧ (∀ Q, Took Q → (∀ x, Part W x → Q x) → ∀ x, Part (rnd f i m W).1 x → Q x) ∧
    (U.length ≤ f + i → (rnd f i m W).2 = false → (∀ x, Part (rnd f i m W).1 x ↔ Part W x) ∧ ∀ j (h : j < W.length), i ≤ j → W[j].part = true → TookT (Part W) W[j].t)
  | 0, i, m, W, hW, hS => ⟨hW, hS, fun _ h => h, fun _ _ h => h, fun hf _ => ⟨fun _ => Iff.rfl, fun j h hj _ => by have := hW.len; simp only [Nat.zero_add] at hf; omega⟩⟩
  | f + 1, i, m, W, hW, hS => by
    simp only [rnd]
    split
    · rename_i hi
      split
      · rename_i hp
        obtain ⟨a1, a2, a3⟩ := apart_part hU hW hi
        have hW1 := (apart_inv hU hW hi).1
        have hS1 : Sound (Part (apart W i).1) (apart W i).1 := apart_sound hU hW hi _ (fun x hx => hx) (fun s hs => (hS s hs).mono a1)
        obtain ⟨b1, b2, b3, b4, b5⟩ := rnd_part hU f (i + 1) (m || (apart W i).2) _ hW1 hS1
        have hpi : W[i].part = true := by rw [part_at hi] at hp; exact hp
        refine ⟨b1, b2, fun x hx => b3 x (a1 x hx), fun Q hQ hP => b4 Q hQ (a2 Q hQ (fun s hs => (hS s hs).mono hP) hP (hP _ ⟨_, List.getElem_mem hi, hpi, rfl⟩)).2, fun hf hr => ?_⟩
        have hap : (apart W i).2 = false := by
          cases h : (apart W i).2 with
          | false => rfl
          | true => rw [h, Bool.or_true, rnd_true] at hr; cases hr
        obtain ⟨c1, c2, c3⟩ := a3 hap hS
        obtain ⟨d1, d2⟩ := b5 (by omega) hr
        refine ⟨fun x => (d1 x).trans (c2 x), fun j h hj hpj => ?_⟩
        by_cases e : j = i
        · subst e; exact c3
        · have hlt : j < (apart W i).1.length := Nat.lt_of_lt_of_le h c1.length_le
          have he : (apart W i).1[j] = W[j] := (c1.getElem h).symm
          have := d2 j hlt (by omega) (by rw [he]; exact hpj)
          rw [he] at this
          exact this.iff c2
      · rename_i hp
        obtain ⟨b1, b2, b3, b4, b5⟩ := rnd_part hU f (i + 1) m W hW hS
        refine ⟨b1, b2, b3, b4, fun hf hr => ?_⟩
        obtain ⟨d1, d2⟩ := b5 (by omega) hr
        refine ⟨d1, fun j h hj hpj => ?_⟩
        by_cases e : j = i
        · subst e; rw [part_at hi] at hp; exact absurd hpj hp
        · exact d2 j h (by omega) hpj
    · rename_i hi
      exact ⟨hW, hS, fun _ h => h, fun _ _ h => h, fun _ _ => ⟨fun _ => Iff.rfl, fun j h hj _ => by omega⟩⟩
/-- All rounds. -/
theorem run_part {U : List T} (hU : Uni U) : ∀ (f : Nat) (W : List Stp), Inv U W → Sound (Part W) W → U.length < f + np W →
    Inv U (run U.length f W) ∧ Sound (Part (run U.length f W)) (run U.length f W) ∧ (∀ x, Part W x → Part (run U.length f W) x) ∧ (∀ Q, Took Q → (∀ x, Part W x → Q x) → ∀ x, Part (run U.length f W) x → Q x) ∧ Took (Part (run U.length f W))
  | 0, W, hW, _, hf => by have := np_le W; have := hW.len; omega
  | f + 1, W, hW, hS, hf => by
    obtain ⟨b1, b2, b3, b4, b5⟩ := rnd_part hU U.length 0 false W hW hS
    have hn := np_rnd U.length 0 false W
    simp only [run]
    split
    · rename_i hr
      have h2 : np W + 1 ≤ np (rnd U.length 0 false W).1 := by
        rcases hn.2 hr with h | h
        · cases h
        · exact h
      obtain ⟨c1, c2, c3, c4, c5⟩ := run_part hU f _ b1 b2 (by omega)
      exact ⟨c1, c2, fun x hx => c3 x (b3 x hx), fun Q hQ hP => c4 Q hQ (b4 Q hQ hP), c5⟩
    · rename_i hr
      have hr' : (rnd U.length 0 false W).2 = false := by cases h : (rnd U.length 0 false W).2 with
        | false => rfl
        | true => exact absurd h hr
      obtain ⟨d1, d2⟩ := b5 (by omega) hr'
      refine ⟨b1, b2, b3, b4, fun t ht => ?_⟩
      obtain ⟨s, hs, h1, h2⟩ := (d1 t).1 ht
      obtain ⟨j, hj, rfl⟩ := List.getElem_of_mem hs
      rw [← h2]
      exact (d2 j hj (Nat.zero_le _) h1).iff fun x => (d1 x).symm
theorem start_part {U : List T} (hU : Uni U) : ∀ (ts : List T) (W : List Stp), (∀ t ∈ ts, t ∈ U) → Inv U W → Sound (Part W) W → Inv U (ts.foldl (fun W t => (take W t 1 []).1) W) ∧ Sound (Part (ts.foldl (fun W t => (take W t 1 []).1) W)) (ts.foldl (fun W t => (take W t 1 []).1) W) ∧
    ∀ x, Part (ts.foldl (fun W t => (take W t 1 []).1) W) x ↔ Part W x ∨ x ∈ ts
  | [], W, _, hW, hS => ⟨hW, hS, fun x => by simp⟩
  | t :: r, W, h, hW, hS => by
    have ht := h t (by simp)
    have a1 := (part_take hU hW ht 1 []).1
    have hS1 : Sound (Part (take W t 1 []).1) (take W t 1 []).1 := Sound.take (fun s hs => (hS s hs).mono fun x hx => (a1 x).2 (.inl hx)) (.base ((a1 t).2 (.inr rfl))) 1 []
    obtain ⟨b1, b2, b3⟩ := start_part hU r _ (fun x hx => h x (List.mem_cons_of_mem _ hx)) (take_inv 1 [] hW ht) hS1
    exact ⟨b1, b2, fun x => by rw [List.foldl_cons, b3, a1, List.mem_cons, or_assoc]⟩
/-- What fill takes apart is the least closed set. -/
theorem fill_part {U K : List T} (hU : Uni U) (hK : ∀ t ∈ K, t ∈ U) : Inv U (fill U.length K) ∧ Sound (Part (fill U.length K)) (fill U.length K) ∧ ∀ t, Part (fill U.length K) t ↔ An (· ∈ K) t := by
  obtain ⟨a1, a2, a3⟩ := start_part hU K [] hK (Inv.nil U) (fun s hs => by cases hs)
  obtain ⟨b1, b2, b3, b4, b5⟩ := run_part hU (U.length + 1) (start K) a1 a2 (by omega)
  have hst : ∀ x, Part (start K) x ↔ x ∈ K := fun x => (a3 x).trans ⟨fun h => by
    rcases h with ⟨s, hs, _⟩ | h
    · cases hs
    · exact h, .inr⟩
  refine ⟨b1, b2, fun t => ⟨fun ht Q hQ hQK => b4 Q hQ (fun x hx => hQK x ((hst x).1 hx)) t ht, fun ha => ha _ b5 fun x hx => b3 x ((hst x).2 hx)⟩⟩
end Wb
/-- What can be derived. -/
theorem can_iff {U K : List T} (hU : Uni U) (hK : ∀ t ∈ K, t ∈ U) {t : T} (ht : t.use = true → t ∈ U) : canB (Wb.fill U.length K) t = true ↔ t.use = true ∧ Syn (An (· ∈ K)) t := by
  obtain ⟨h1, h2, h3⟩ := Wb.fill_part hU hK
  unfold canB
  rw [Bool.and_eq_true]
  constructor
  · rintro ⟨hu, hs⟩
    obtain ⟨r, hr⟩ := Option.isSome_iff_exists.1 hs
    exact ⟨hu, (Syn.iff h3 t).1 ((Wb.bld_iff hU (ht hu) h1 h2).1 ⟨r, hr⟩)⟩
  · rintro ⟨hu, hs⟩
    obtain ⟨r, hr⟩ := (Wb.bld_iff hU (ht hu) h1 h2).2 ((Syn.iff h3 t).2 hs)
    exact ⟨hu, by rw [hr]; rfl⟩
end Go.Proofs.YtihbmgkbipeakaaGreat

namespace Go.Proofs.YtihbmgkbipeakaaGreat
open Go.RowKit

/-- The terms of the first steps that were taken apart. -/
def ptsT (W : List Stp) (j : Nat) : List T := ((W.take j).filter Stp.part).map Stp.t
theorem pts_succ (W : List Stp) (j : Nat) (h : j < W.length) : ptsT W (j + 1) = if W[j].part = true then ptsT W j ++ [W[j].t] else ptsT W j := by
  unfold ptsT
  rw [List.take_succ_eq_append_getElem h, List.filter_append, List.map_append]
  by_cases hu : W[j].part = true
  · rw [if_pos hu]; simp [hu]
  · rw [if_neg hu]; simp [hu]
theorem pts_len (W : List Stp) (j : Nat) : (ptsT W j).length ≤ W.length := by
  unfold ptsT
  rw [List.length_map]
  exact Nat.le_trans (List.length_filter_le _ _) (by rw [List.length_take]; omega)

set_option maxRecDepth 100000 in
set_option maxHeartbeats 8000000 in
theorem oparts {B g M : Nat} {vs vp : Value} {W : List Stp} (w : World) (h : WebAt B w g M vs vp W) (hb : ∀ s ∈ W, s.t.bulk ≤ 1048576) :
    Calls Tryz.prog 55 #[.agg #[.pointer (some ⟨g, 0, none⟩)]] w fun e w' => ∃ A cap L, e = .returned (.slice A L.length cap) ∧ L.Perm (ptsT W W.length) ∧ L.Pairwise (fun a b => ¬ T.cmp b a < 0) ∧ KnownAt w' A cap L ∧ Below w.heap.size w w' := by
  obtain ⟨i0, hi0, hz0, hz1, hz2⟩ := info_parts Tryz.infoT
  have hb1 := below_alloc1 w (.cells #[.pointer (some ⟨g, 0, none⟩)] 84)
  have hka : (w.alloc (.cells #[.pointer (some ⟨g, 0, none⟩)] 84)).cell? ⟨w.heap.size, 0, none⟩ = some (.pointer (some ⟨g, 0, none⟩)) := by
    have := heap_alloc_new w (.cells #[.pointer (some ⟨g, 0, none⟩)] 84)
    unfold World.cell?; rw [this]; rfl
  have HW := Lib.hid (h.later hb1); have HBW := Lib.hid hb1; have HBK := Lib.hid hb
  have hsz := h.size
  obtain ⟨A7, c7, A8, c8, rfl, rfl⟩ := h.shapes
  clear h hb hb1
  go_enter Tryz.func55, Tryz.ntmps55
  go_upto_region 1 with fail
  generalize w.alloc (.cells #[.pointer (some ⟨g, 0, none⟩)] 84) = w1 at hka HW HBW ⊢
  have HKA := Lib.hid hka
  obtain ⟨d0, d1, d2, _, _⟩ := HW.out.cells
  have hzw := HBW.out.size
  have HST := Lib.hid (show TermsRow w1 w1.heap.size (.slice none 0 0) (ptsT W 0) ∧ Below w1.heap.size w1 w1 from ⟨TermsRow.nil _ _, Below.refl _ _⟩)
  go_upto_region 3 with fail
  clear hka d0 d1 d2
  go_loopw [12, 3] (fun i l wr => ∃ j : Nat, j ≤ W.length ∧ i = .int .i64 j ∧ TermsRow wr w1.heap.size l (ptsT W j) ∧ Below w1.heap.size w1 wr) (fun i _ _ => W.length - (intOf i).toNat)
  case atStart => exact ⟨0, Nat.zero_le _, rfl, HST.out.1, HST.out.2⟩
  case round =>
    obtain ⟨j, hj, rfl, hrow, hbw⟩ := hrel
    by_cases hlt : j < W.length
    · have HWr := HW.out.later hbw
      obtain ⟨gs0, cp, A0, cap0, F0, fc0, hvs, s0, s1, s2, s3, s4, hT, hN⟩ := HWr.step_row hlt
      injection hvs with hv1 _ hv3
      subst hv1; subst hv3
      have hi1 : (0 : Int) ≤ (j : Int) ∧ (j : Int) < (W.length : Int) := by omega
      obtain ⟨hi1, hi2⟩ := hi1
      have hi3 : (j : Int) ≤ 1048576 := by omega
      have HSC := Lib.hid (pts_succ W j hlt)
      have hbk2 := HBK.out (W[j]'(hlt)) (List.getElem_mem hlt)
      have HT := Lib.hid hT.at
      have HLT := Lib.hid hlt
      obtain ⟨gp, cq, hvp, p0, _, _⟩ := HWr.part_row hlt
      injection hvp with hv1 _ hv3
      subst hv1; subst hv3
      generalize W[j]'(hlt) = st at s0 s1 s2 s3 s4 HT HSC hbk2 p0
      obtain ⟨t, how, frm, pt⟩ := st
      dsimp only at s0 s1 s2 s3 s4 HT HSC hbk2 p0
      have hwa := below_alloc1 wr (.cells #[.int .i64 t.kind, .string t.name, .slice A0 t.kids.length cap0, .int .i64 (how : Int), .slice F0 frm.length fc0] 31)
      have bk := Box5.new wr (.int .i64 t.kind) (.string t.name) (.slice A0 t.kids.length cap0) (.int .i64 (how : Int)) (.slice F0 frm.length fc0)
      have HROW := Lib.hid (hrow.later hwa); have HBX := Lib.hid (hbw.trans (hwa.mono hbw.size)); have HTa := Lib.hid (HT.out.later hwa); have hpa := cell_later hwa p0
      have HWa := HW.out.later (hbw.trans (hwa.mono hbw.size))
      obtain ⟨d0, d1, d2, _, _⟩ := HWa.cells
      have hk2 := cell_later (hbw.trans (hwa.mono hbw.size)) HKA.out
      have HCP := Lib.hid (fun v' W' hW => ocopy (t.bulk + 1) t v' W' (by omega) hW hbk2)
      clear hT hN hrow hbw HWr hlt hbk2 HT
      go_upto_region 5 with fail
      clear s0 s1 s2 s3 s4 hwa p0 HWa
      generalize wr.alloc (.cells #[.int .i64 t.kind, .string t.name, .slice A0 t.kids.length cap0, .int .i64 (how : Int), .slice F0 frm.length fc0] 31) = wa at bk HROW HBX HTa hpa d0 d1 d2 hk2 ⊢
      obtain ⟨k0, k1, k2, _, _⟩ := bk.cells
      clear bk
      cases pt with
      | false =>
        have HE := Lib.hid (show ptsT W (j + 1) = ptsT W j by rw [HSC.out]; rfl)
        go_wp2_with fail
        go_roundw
        case rel => exact ⟨j + 1, HLT.out, by go_num, by rw [HE.out]; exact HROW.out, HBX.out⟩
        case measure => have := HLT.out; simp [intOf]; omega
      | true =>
        have HE := Lib.hid (show ptsT W (j + 1) = ptsT W j ++ [t] by rw [HSC.out]; rfl)
        obtain ⟨xs, hown, hct⟩ := HROW.out.cells
        have HBLK := Lib.hid HROW.out.block
        have HOWN := Lib.hid hown; have HCT := Lib.hid hct
        have hlen := pts_len W j
        generalize ptsT W j = L0 at HOWN HCT HBLK hlen HE
        obtain ⟨A9, c9, rfl⟩ := own_shapeU HOWN.out
        clear hown hct HSC HROW
        go_wp2_with fail
        refine (HCP.out _ _ HTa.out).mono ?_; rintro e w3 ⟨A3, C3, rfl, hti, hb3⟩
        have hwb := below_alloc1 w3 (.cells #[.int .i64 t.kind, .string t.name, .slice A3 t.kids.length C3] 29)
        have HOWN3 := Lib.hid (own_later (own_later HOWN.out hb3) hwb)
        have HONE := Lib.hid hti.one
        have hz3 : w1.heap.size ≤ (w3.alloc (.cells #[.int .i64 t.kind, .string t.name, .slice A3 t.kids.length C3] 29)).heap.size := by rw [size_alloc1]; have := hb3.size; have := HBX.out.size; omega
        have HPUSH := Lib.hid (fun w8 A8 c8 hown8 hg8 hat8 => TermsRow.push (base := w1.heap.size) (w3 := w8) (A8 := A8) (c8 := c8) (o := .cells #[.int .i64 t.kind, .string t.name, .slice A3 t.kids.length C3] 29 (0, 0)) HCT.out (fun b e => (HBLK.out b e).2) HBX.out.size hb3 hti hown8 hg8 hat8)
        have HB3 := Lib.hid ((HBX.out.trans (hb3.mono HBX.out.size)).trans (hwb.mono (Nat.le_trans HBX.out.size hb3.size)))
        clear hb3 hti hwb k0 k1 k2 hpa d0 d1 d2 hk2
        go_wp2_with (at_builtin; refine wpList_append_src _ rfl _ _ 27 rfl w1.heap.size 29 i0 _ 3 48 Tryz.underlying27 hi0 hz0 hz1 hz2 rfl (by omega) _ _ _ rfl HOWN3.out _ 1 1 [.int .i64 t.kind, .string t.name, .slice A3 t.kids.length C3] rfl (Src.newsU _ _ _ 3 rfl) HONE.out (by unfold maxLen; omega) (by omega) hz3 ?_; intro A8 c8 w8 hown8 hg8 hat8; have HR8 := Lib.hid (HPUSH.out _ _ _ hown8 hg8 hat8); have HB8 := Lib.hid (HB3.out.grown hg8 HB3.out.size (fun k hk => (HBLK.out k hk).1)); clear hown8 hg8 hat8)
        go_roundw
        case rel => exact ⟨j + 1, HLT.out, by go_num, by rw [HE.out]; exact HR8.out, HB8.out⟩
        case measure => have := HLT.out; simp [intOf]; omega
    · obtain rfl : j = W.length := by omega
      have HROW := Lib.hid hrow; have HBX := Lib.hid hbw
      have HPB := Lib.hid (show ∀ t ∈ ptsT W W.length, t.bulk ≤ 1048576 from fun t ht => by
        unfold ptsT at ht
        obtain ⟨s, hs, rfl⟩ := List.mem_map.1 ht
        exact HBK.out s (List.mem_of_mem_take (List.mem_filter.1 hs).1))
      have hpl := pts_len W W.length
      obtain ⟨L0, hL0⟩ : ∃ L0, ptsT W W.length = L0 := ⟨_, rfl⟩
      rw [hL0] at HROW HPB hpl
      have HL0 := Lib.hid hL0
      clear hL0
      obtain ⟨A9, c9, hl9, _, _⟩ := HROW.out.shape
      subst hl9
      clear hrow hbw hlt hj
      go_upto_region 8 with fail
      go_wp2_with fail
      refine (osort _ HROW.out HPB.out (by omega)).mono ?_; rintro e w5 ⟨rfl, L', hp, hs, hkn, hb5⟩
      have HP := Lib.hid hp; have HS := Lib.hid hs; have HKN := Lib.hid hkn
      have HB5 := Lib.hid (HBW.out.trans ((HBX.out.trans hb5).mono hzw))
      have HLE := Lib.hid hp.length_eq
      clear hp hs hkn hb5
      go_wp2_with fail
      go_ret
      exact ⟨A9, c9, L', by rw [HLE.out]; rfl, by rw [HL0.out]; exact HP.out, HS.out, HKN.out, HB5.out⟩
theorem pts_mem (W : List Stp) (x : T) : x ∈ ptsT W W.length ↔ Wb.Part W x := by
  unfold ptsT
  rw [List.take_length, List.mem_map]
  constructor
  · rintro ⟨s, hs, rfl⟩
    obtain ⟨h1, h2⟩ := List.mem_filter.1 hs
    exact ⟨s, h1, h2, rfl⟩
  · rintro ⟨s, h1, h2, rfl⟩
    exact ⟨s, List.mem_filter.2 ⟨h1, h2⟩, rfl⟩
theorem pts_nodup {U : List T} {W : List Stp} (h : Inv U W) : (ptsT W W.length).Nodup := by
  unfold ptsT
  rw [List.take_length]
  have h1 : W.Pairwise fun a b => a.t ≠ b.t := List.Pairwise.of_map (S := fun a b => a ≠ b) (fun s => s.t.key) (fun a b hab e => hab (by rw [e])) h.apart
  exact List.pairwise_map.2 (List.Pairwise.sublist List.filter_sublist h1)
/-- What Close gives: the terms that are taken apart, in ascending order. -/
def CloseIs (K L : List T) : Prop := (∀ x, x ∈ L ↔ An (· ∈ K) x) ∧ (L.Pairwise fun a b => 0 ≤ T.cmp b a) ∧ L.Nodup

set_option maxRecDepth 100000 in
set_option maxHeartbeats 4000000 in
theorem oclose {U : List T} (hU : Uni U) (hbU : ∀ t ∈ U, t.bulk ≤ 1048576) (L : List T) (A : Option Addr) (cap : Nat) (w : World) (h : KnownAt w A cap L) (hb : ∀ t ∈ L, t.bulk ≤ 1048576) (hK : ∀ t ∈ cnt L, t ∈ U) :
    Calls Tryz.prog 23 #[.slice A L.length cap] w fun e w' => ∃ A' cap' L', e = .returned (.slice A' L'.length cap') ∧ CloseIs (cnt L) L' ∧ L'.length ≤ U.length ∧ KnownAt w' A' cap' L' ∧ Below w.heap.size w w' := by
  have HL := Lib.hid (olearn hU hbU L A cap w h hb hK)
  have hfp := Wb.fill_part hU hK
  have HFP := Lib.hid hfp
  have HP := Lib.hid (fun B g M vs vp W' (hW : WebAt B W' g M vs vp (Wb.fill U.length (cnt L))) => oparts W' hW (fun s hs => hbU _ (hfp.1.mem s hs)))
  generalize Wb.fill U.length (cnt L) = W at HL HFP HP
  clear hfp h hb hK
  go_enter Tryz.func23, Tryz.ntmps23
  go_wp2_with fail
  refine HL.out.mono ?_; rintro e w4 ⟨g, rfl, hl4, hb4⟩
  obtain ⟨B, M, vs, vp, hB4, hw4⟩ := hl4
  have HW4 := Lib.hid hw4; have HB4 := Lib.hid hb4
  clear hw4 hb4
  go_wp2_with fail
  refine (HP.out B g M vs vp _ HW4.out).mono ?_; rintro e w5 ⟨A', cap', L', rfl, hp, hs, hkn, hb5⟩
  have HB5 := Lib.hid (HB4.out.trans (hb5.mono HB4.out.size)); have HKN := Lib.hid hkn; have HPM := Lib.hid hp; have HSO := Lib.hid hs
  clear hp hs hkn hb5
  go_wp2_with fail
  go_ret
  exact ⟨A', cap', L', rfl, ⟨fun x => (HPM.out.mem_iff).trans ((pts_mem W x).trans (HFP.out.2.2 x)), HSO.out.imp (fun h => by omega), HPM.out.nodup_iff.2 (pts_nodup HFP.out.1)⟩, by rw [HPM.out.length_eq]; exact Nat.le_trans (pts_len W _) HFP.out.1.len, HKN.out, HB5.out⟩
end Go.Proofs.YtihbmgkbipeakaaGreat
