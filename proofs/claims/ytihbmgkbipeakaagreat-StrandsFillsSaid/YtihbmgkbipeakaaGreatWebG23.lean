/- Several texts in one: StrStrand, StrProto. -/
import Derived.Test.YtihbmgkbipeakaaGreatWebG22
import Derived.Test.YtihbmgkbipeakaaGreatWebG4
import Derived.Test.YtihbmgkbipeakaaGreatShelf
import Derived.IntWalk
import Derived.Test.YtihbmgkbipeakaaGreatWebG7
namespace Go.Proofs.YtihbmgkbipeakaaGreat
open Go.RowKit

attribute [local go_sem ↓] Go.wp_at_zero Go.wp_at_succ

/-- The kind of a move by the letter ahead of its term. -/
def kindB (c : UInt8) : Int := if c = 82 then 2 else if c = 67 then 3 else if c = 68 then 4 else 1
theorem kindB_bd (c : UInt8) : 1 ≤ kindB c ∧ kindB c ≤ 4 := by unfold kindB; repeat' split
                                                               all_goals omega
/-- A text that begins with one of four letters, and has two bytes at least. -/
def goodText (x : ByteArray) : Prop := 2 ≤ x.size ∧ (x.data.toList.getD 0 0 = 83 ∨ x.data.toList.getD 0 0 = 82 ∨ x.data.toList.getD 0 0 = 67 ∨ x.data.toList.getD 0 0 = 68)
/-- The move that a text is. -/
def moveOf (x : ByteArray) : Int × T := (kindB (x.data.toList.getD 0 0), (T.parse (x.extract 2 x.size)).1)
theorem first_at (s : ByteArray) (h : 0 < s.size) : s.data.toList.getD 0 0 = s[0] := by
  simp [List.getD, h]; rfl

/-- A strand in a box. -/
def SBox (w : World) (g : Nat) (a b : Value) : Prop := w.heap[g]? = some (.cells #[a, b] 49 (0, 0))
theorem SBox.lt {w : World} {g : Nat} {a b : Value} (h : SBox w g a b) : g < w.heap.size := (Array.getElem?_eq_some_iff.1 h).1
theorem SBox.cells {w : World} {g : Nat} {a b : Value} (h : SBox w g a b) : w.cell? ⟨g, 0, none⟩ = some a ∧ w.cell? ⟨g, 1, none⟩ = some b := by
  unfold SBox at h
  refine ⟨?_, ?_⟩ <;> simp [World.cell?, h]
theorem SBox.free {w : World} {g : Nat} {a b : Value} (h : SBox w g a b) : w.frozen? ⟨g, 0, none⟩ = false ∧ w.frozen? ⟨g, 1, none⟩ = false := by
  unfold SBox at h
  refine ⟨?_, ?_⟩ <;> simp [World.frozen?, h]
theorem SBox.later {w w' : World} {g : Nat} {a b : Value} (h : SBox w g a b) (hb : Below w.heap.size w w') : SBox w' g a b := (hb.block g h.lt).trans h
theorem SBox.grown {w w' : World} {g : Nat} {a b : Value} {row : Option Nat} (h : SBox w g a b) (hg : w.grownBy w' row) (hr : row ≠ some g) : SBox w' g a b := (hg.block g h.lt (fun e => hr e.symm)).trans h
theorem SBox.new (w : World) (a b : Value) : SBox (w.alloc (.cells #[a, b] 49)) w.heap.size a b := heap_alloc_new w _
theorem SBox.set1 {w : World} {g : Nat} {a b : Value} (h : SBox w g a b) (v : Value) : SBox (w.setCell ⟨g, 1, none⟩ v) g a v := by
  unfold SBox at *
  simp [World.setCell, Array.getElem?_modify, h]
theorem SBox.setOther {w : World} {g : Nat} {a b : Value} (h : SBox w g a b) {p : Addr} (hp : g ≠ p.block) (v : Value) : SBox (w.setCell p v) g a b :=
  (Below.heap_setCell _ _ _ _ hp).trans h
theorem SBox.set2 {w : World} {g : Nat} {a b : Value} (h : SBox w g a b) (x y : Value) : SBox ((w.setCell ⟨g, 0, none⟩ x).setCell ⟨g, 1, none⟩ y) g x y := by
  unfold SBox at *
  simp [World.setCell, Array.getElem?_modify, h]
theorem sset2_other (w : World) (g : Nat) (x y : Value) (k : Nat) (hk : k ≠ g) : ((w.setCell ⟨g, 0, none⟩ x).setCell ⟨g, 1, none⟩ y).heap[k]? = w.heap[k]? := by
  rw [Below.heap_setCell _ _ _ _ hk, Below.heap_setCell _ _ _ _ hk]
theorem sbox_two (w : World) (a b c d : Value) : SBox ((w.alloc (.cells #[a, b] 49)).alloc (.cells #[c, d] 49)) w.heap.size a b ∧
    SBox ((w.alloc (.cells #[a, b] 49)).alloc (.cells #[c, d] 49)) (w.heap.size + 1) c d ∧
    Below w.heap.size w ((w.alloc (.cells #[a, b] 49)).alloc (.cells #[c, d] 49)) ∧
    ((w.alloc (.cells #[a, b] 49)).alloc (.cells #[c, d] 49)).heap.size = w.heap.size + 2 := by
  have h1 := below_alloc1 w (.cells #[a, b] 49)
  have h2 := below_alloc1 (w.alloc (.cells #[a, b] 49)) (.cells #[c, d] 49)
  refine ⟨(SBox.new w a b).later h2, ?_, h1.trans (h2.mono h1.size), by rw [size_alloc1, size_alloc1]⟩
  have := SBox.new (w.alloc (.cells #[a, b] 49)) c d
  rw [size_alloc1] at this; exact this

/-- What the loop of strand has done. -/
def StrAt (w : World) (role : ByteArray) (L : List (Int × T)) (wr : World) : Prop :=
  ∃ kv, SBox wr (w.heap.size + 1) (.string role) kv ∧ SBox wr w.heap.size (.string ⟨#[]⟩) (.slice none 0 0) ∧ MovesRow wr (w.heap.size + 2) kv L ∧ Below w.heap.size w wr ∧ w.heap.size + 2 ≤ wr.heap.size
theorem StrAt.step {w : World} {role : ByteArray} {L : List (Int × T)} {k : Int} {t : T} {wr w3 w4 : World} {kv u0 u1 u2 : Value} {xs : List Value} {g cap : Nat}
    (x : SBox wr (w.heap.size + 1) (.string role) kv) (y : SBox wr w.heap.size (.string ⟨#[]⟩) (.slice none 0 0)) (hrow : MovesRow wr (w.heap.size + 2) kv L) (hb : Below w.heap.size w wr) (hsz : w.heap.size + 2 ≤ wr.heap.size)
    (hx : ∀ i (h : i < L.length), ∃ u0 u1 u2, xs[i * 4]? = some (.int .i64 L[i].1) ∧ xs[i * 4 + 1]? = some u0 ∧ xs[i * 4 + 2]? = some u1 ∧ xs[i * 4 + 3]? = some u2 ∧ TermIn (but (w.heap.size + 2) kv.ownBlock) wr (.agg #[u0, u1, u2]) L[i].2 ∧ -9223372036854775808 ≤ L[i].1 ∧ L[i].1 ≤ 9223372036854775807) (hl : xs.length = L.length * 4)
    (hk : -9223372036854775808 ≤ k ∧ k ≤ 9223372036854775807)
    (hb3 : Below wr.heap.size wr w3) (ht : TermIn (from_ wr.heap.size) w3 (.agg #[u0, u1, u2]) t)
    (hown : w4.ownsRow (w.heap.size + 2) 52 4 (.slice (some ⟨g, 0, none⟩) (L.length + 1) cap) (L.length + 1) (xs ++ [.int .i64 k, u0, u1, u2])) (hgrow : (w3.alloc (.cells #[.int .i64 k, u0, u1, u2] 52)).grownBy w4 kv.ownBlock)
    (hat : kv.ownBlock = some g ∨ g = w3.heap.size + 1) : StrAt w role (L ++ [(k, t)]) (w4.setCell ⟨w.heap.size + 1, 1, none⟩ (.slice (some ⟨g, 0, none⟩) (L.length + 1) cap)) := by
  have hne : ∀ b, b < w.heap.size + 2 → kv.ownBlock ≠ some b := fun b hlt e => by have := (hrow.block b e).1; omega
  have hb3' := hb3.trans ((below_alloc1 w3 (.cells #[.int .i64 k, u0, u1, u2] 52)).mono hb3.size)
  have hbf : Below w.heap.size w w4 := (hb.trans (hb3'.mono (by omega))).grown hgrow (by rw [size_alloc1]; have := hb3.size; omega) (fun k hk => by have := (hrow.block k hk).1; omega)
  refine ⟨_, (((x.later hb3').grown hgrow (hne _ (by omega))).set1 _), ?_, ?_, hbf.setCell (by show w.heap.size ≤ w.heap.size + 1; omega) _, ?_⟩
  · exact ((y.later hb3').grown hgrow (hne _ (by omega))).setOther (by simp) _
  · have h1 := MovesRow.snoc (w := w3.alloc (.cells #[.int .i64 k, u0, u1, u2] 52)) (H := w3.heap.size + 1) (t := t) (fun i hi => by
        obtain ⟨a0, a1, a2, b9, b0, b1, b2, b3, b4⟩ := hx i hi
        exact ⟨a0, a1, a2, b9, b0, b1, b2, b3.keep fun b hb hlt => ⟨hb, hb3'.block b hlt⟩, b4⟩) hl
      (ht.keep fun b hbb hlt => ⟨but_iff.2 ⟨by have := of_decide_eq_true hbb; omega, fun e => by have := (hrow.block b e).2; have := of_decide_eq_true hbb; omega⟩, Below.heap_alloc w3 _ b hlt⟩)
      hk hown hgrow hat (by rw [size_alloc1])
    exact h1.keep fun b hbb _ => Below.heap_setCell _ _ _ _ (by show b ≠ w.heap.size + 1; omega)
  · have := hgrow.size; have := hb3'.size; simp [World.setCell]; omega

theorem move_one {S : Nat → Bool} {w : World} {a b c : Value} {t : T} {k : Int} (h : TermIn S w (.agg #[a, b, c]) t) : ∀ u ∈ [Value.int .i64 k, a, b, c], u.oneCell' = true := by
  intro u hu
  rcases List.mem_cons.1 hu with rfl | hu
  · rfl
  · exact h.one u hu
/-- A strand in new memory. -/
def RetS (s : ByteArray × List (Int × T)) (w : World) (e : Ending) (w' : World) : Prop := ∃ A c, e = .returned (.agg #[.string s.1, .slice A s.2.length c]) ∧ MovesIn (from_ w.heap.size) w' A s.2 ∧ Below w.heap.size w w'

theorem oindex (c : UInt8) (hc : c = 83 ∨ c = 82 ∨ c = 67 ∨ c = 68) (w : World) :
    Calls Tryz.prog 140 #[.string ⟨#[83, 82, 67, 68]⟩, .int .u8 (c.toNat : Int)] w fun e w' => e = .returned (.int .i64 (kindB c - 1)) ∧ w = w' := by
  refine (Tryz.strings_IndexByte _ _ _).mono ?_
  rintro e w' ⟨rfl, hw⟩
  refine ⟨?_, hw.symm⟩
  rcases hc with rfl | rfl | rfl | rfl <;> rfl

set_option maxRecDepth 100000 in
set_option maxHeartbeats 8000000 in
theorem ostrand (role : ByteArray) (ts : List ByteArray) (A : Option Addr) (c : Nat) (w : World) (hl : ts.length ≤ 16) (hA : TextsAt w A ts) (hg : ∀ x ∈ ts, goodText x) (L : List (Int × T)) (hL : ts.map moveOf = L) :
    Calls Tryz.prog 113 #[.string role, .slice A ts.length c] w (RetS (role, L) w) := by
  have HL := Lib.hid hL
  clear hL
  obtain ⟨i0, hi0, hz0, hz1, hz2⟩ := info_parts Tryz.infoM
  have HTX := Lib.hid hA
  have HGD := Lib.hid hg
  clear hA hg
  go_enter Tryz.func113, Tryz.ntmps113
  go_wp2_with fail
  obtain ⟨bz, bx, hb1, hsz⟩ := sbox_two w (.string ⟨#[]⟩) (.slice none 0 0) (.string role) (.slice none 0 0)
  generalize (w.alloc (.cells #[.string ⟨#[]⟩, .slice none 0 0] 49)).alloc (.cells #[.string role, .slice none 0 0] 49) = w1 at bx bz hb1 hsz ⊢
  have HST := Lib.hid (show StrAt w role [] w1 from ⟨_, bx, bz, MovesRow.nil _ _, hb1, by omega⟩)
  clear bx bz hb1 hsz
  go_loopw [12] (fun i wr => ∃ j : Nat, j ≤ ts.length ∧ i = .int .i64 j ∧ StrAt w role ((ts.map moveOf).take j) wr) (fun i _ => ts.length - (intOf i).toNat)
  case atStart => exact ⟨0, Nat.zero_le _, rfl, by simpa using HST.out⟩
  case round =>
    obtain ⟨j, hj, rfl, hat⟩ := hrel
    by_cases hlt : j < ts.length
    · obtain ⟨kv, bx, bz, hrow, hbw, hsz⟩ := hat
      obtain ⟨b, off, rfl, d0⟩ := HTX.out.cell j hlt
      have e0 := cell_later hbw d0
      have hgd := HGD.out _ (List.getElem_mem hlt)
      have HTK := Lib.hid (show List.take j (ts.map moveOf) ++ [moveOf ts[j]] = List.take (j + 1) (ts.map moveOf) by rw [List.take_succ_eq_append_getElem (by simpa using hlt), List.getElem_map])
      obtain ⟨x, hx⟩ : ∃ x, ts[j]'hlt = x := ⟨_, rfl⟩
      rw [hx] at e0 hgd HTK
      have hi : (j : Int) < (ts.length : Int) := by omega
      have hx2 : 2 ≤ x.size := hgd.1
      have hx0 : 0 < x.size := by omega
      have hxi : (2 : Int) ≤ (x.size : Int) := by omega
      have hxj : (0 : Int) < (x.size : Int) := by omega
      have HGX := Lib.hid hgd
      have HLT := Lib.hid hlt
      obtain ⟨ch, hch⟩ : ∃ ch, x[0]'hx0 = ch := ⟨_, rfl⟩
      have hcc : ch = 83 ∨ ch = 82 ∨ ch = 67 ∨ ch = 68 := by have h := hgd.2; rw [first_at x hx0, hch] at h; exact h
      have HI := Lib.hid (fun W => oindex ch hcc W)
      have HMV := Lib.hid (show moveOf x = (kindB ch, (T.parse (x.extract 2 x.size)).1) by unfold moveOf; rw [first_at x hx0, hch])
      have hkb := kindB_bd ch
      generalize kindB ch = kb at HI HMV hkb
      clear d0 hx hgd hcc hj
      obtain ⟨xs, hown, hxs⟩ := hrow.owns
      have hlen : (List.take j (ts.map moveOf)).length = j := by rw [List.length_take, List.length_map]; omega
      have HSTEP := Lib.hid (fun k t w3 w4 u0 u1 u2 g cap => StrAt.step (role := role) (k := k) (t := t) (w3 := w3) (w4 := w4) (u0 := u0) (u1 := u1) (u2 := u2) (g := g) (cap := cap) bx bz hrow hbw hsz hxs hown.1)
      obtain ⟨y0, y1⟩ := bx.cells
      obtain ⟨f0, f1⟩ := bx.free
      have hblk := hrow.block
      rw [hlen] at hown HSTEP
      have HOWN := Lib.hid hown; have HBX := Lib.hid bx; have HBLK := Lib.hid hblk
      have hbz : w.heap.size + 1 < wr.heap.size := by omega
      have HSZ := Lib.hid hsz
      have HNE := Lib.hid (show kv.ownBlock ≠ some (w.heap.size + 1) from fun e => by have := (hblk _ e).1; omega)
      have HKB := Lib.hid hkb
      have hwk : IntKind.i64.wrap kb = kb := IntWalk.i64_in _ (by omega)
      clear hxs hrow bz hsz hlen hown bx hbw hblk hkb
      go_upto_region 5 with fail
      refine wp_region_any (by kernel_rfl) ?_
      (try (change wpAny _ _ _ _ _ _ _ (World.drew _)))
      (refine wpAny_take (i := 0) (v := ?_) (by simp only [List.getElem?_toArray, List.getElem?_cons_zero]; rfl) (by kernel_rfl) (by kernel_rfl) (by kernel_rfl) (by exact fun _ _ _ h => h) (Or.inl ⟨by rfl, ?_⟩) ?_; rotate_left 1; · (intro w; go_simp; (try with_reducible rfl)))
      (refine wpAny_take (i := 2) (v := ?_) (by simp only [List.getElem?_toArray, List.getElem?_cons_succ, List.getElem?_cons_zero]; rfl) (by kernel_rfl) (by kernel_rfl) (by kernel_rfl) (by exact fun _ _ _ h => h) (Or.inl ⟨by rfl, ?_⟩) ?_; rotate_left 1; · (intro w; go_simp; (try with_reducible rfl)))
      (refine wpAny_take (i := 3) (v := ?_) (by simp only [List.getElem?_toArray, List.getElem?_cons_succ, List.getElem?_cons_zero]; rfl) (by kernel_rfl) (by kernel_rfl) (by kernel_rfl) (by exact fun _ _ _ h => h) (Or.inl ⟨by rfl, ?_⟩) ?_; rotate_left 1; · (intro w; go_simp; (try with_reducible rfl)))
      (refine wpAny_take (i := 6) (v := ?_) (by simp only [List.getElem?_toArray, List.getElem?_cons_succ, List.getElem?_cons_zero]; rfl) (by kernel_rfl) (by kernel_rfl) (by kernel_rfl) (by exact fun _ _ _ h => h) (Or.inl ⟨by rfl, ?_⟩) ?_; rotate_left 1; · (intro w; go_simp; (try with_reducible rfl)))
      (refine wpAny_take (i := 7) (v := ?_) (by simp only [List.getElem?_toArray, List.getElem?_cons_succ, List.getElem?_cons_zero]; rfl) (by kernel_rfl) (by kernel_rfl) (by kernel_rfl) (by exact fun _ _ _ h => h) (Or.inl ⟨by rfl, ?_⟩) ?_; rotate_left 1; · (intro w; go_simp; (try with_reducible rfl)))
      refine wpAny_ready (rs := [1, 4]) (by kernel_rfl) (by simp) ?_
      refine AllReady.cons (by simp only [List.getElem?_toArray, List.getElem?_cons_succ, List.getElem?_cons_zero]; rfl) (fun K hK => ?_) ?_
      · go_simp
        (first | (refine hK _ _ ?_; clear hK K) | skip)
        refine wpAny_ready (rs := [4]) (by kernel_rfl) (by simp) ?_
        refine AllReady.cons (by simp only [List.getElem?_toArray, List.getElem?_cons_succ, List.getElem?_cons_zero]; rfl) (fun K hK => ?_) ?_
        · (go_simp; go_at_call 140; refine (HI.out _).mono ?_; rintro e w2 ⟨rfl, rfl⟩)
          (first | (refine hK _ _ ?_; clear hK K) | skip)
          (refine wpAny_take (i := 5) (v := ?_) (by simp only [List.getElem?_toArray, List.getElem?_cons_succ, List.getElem?_cons_zero]; rfl) (by kernel_rfl) (by kernel_rfl) (by kernel_rfl) (by exact fun _ _ _ h => h) (Or.inl ⟨by rfl, ?_⟩) ?_; rotate_left 1; · (intro w; go_simp; (try with_reducible rfl)))
          refine wpAny_ready (rs := [8]) (by kernel_rfl) (by simp) ?_
          refine AllReady.cons (by simp only [List.getElem?_toArray, List.getElem?_cons_succ, List.getElem?_cons_zero]; rfl) (fun K hK => ?_) ?_
          · (go_simp; go_at_call 71; refine (omove kb _ _).mono ?_; rintro e w3 ⟨A3, C3, rfl, hti, hb3⟩; have hb3' := below_undrew hb3; have z0 := cell_later hb3' y0; have z1 := cell_later hb3' y1; have zz1 := cell_later (below_alloc1 w3 (.cells #[.int .i64 (kb), .int .i64 (T.parse (x.extract 2 x.size)).1.kind, .string (T.parse (x.extract 2 x.size)).1.name, .slice A3 (T.parse (x.extract 2 x.size)).1.kids.length C3] 52)) z1; have HOWN3 := Lib.hid ((own_later HOWN.out hb3').alloc (.cells #[.int .i64 (kb), .int .i64 (T.parse (x.extract 2 x.size)).1.kind, .string (T.parse (x.extract 2 x.size)).1.name, .slice A3 (T.parse (x.extract 2 x.size)).1.kids.length C3] 52)); have HONE := Lib.hid (move_one (k := kb) hti); have HBS := Lib.hid (show w.heap.size + 2 ≤ (w3.alloc (.cells #[.int .i64 (kb), .int .i64 (T.parse (x.extract 2 x.size)).1.kind, .string (T.parse (x.extract 2 x.size)).1.name, .slice A3 (T.parse (x.extract 2 x.size)).1.kids.length C3] 52)).heap.size by rw [size_alloc1]; have := hb3'.size; have := HSZ.out; omega))
            (first | (refine hK _ _ ?_; clear hK K) | skip)
            refine wpAny_ready (rs := [9]) (by kernel_rfl) (by simp) ?_
            refine AllReady.cons (by simp only [List.getElem?_toArray, List.getElem?_cons_succ, List.getElem?_cons_zero]; rfl) (fun K hK => ?_) ?_
            · go_simp
              (first | (refine hK _ _ ?_; clear hK K) | skip)
              refine wpAny_ready (rs := [10]) (by kernel_rfl) (by simp) ?_
              refine AllReady.cons (by simp only [List.getElem?_toArray, List.getElem?_cons_succ, List.getElem?_cons_zero]; rfl) (fun K hK => ?_) ?_
              · (refine step_append_lies _ (by rfl) _ _ _ (by rfl) (w.heap.size + 2) 52 i0 _ 4 56 Tryz.underlying47 hi0 hz0 hz1 hz2 rfl (by omega) _ _ _ (by rfl) HOWN3.out ⟨_, 0, none⟩ 1 1 _ (by rfl) (by rfl) (World.news_of_block (heap_alloc_new _ _)) HONE.out (by omega) (by unfold maxLen; omega) (by omega) HBS.out _ rfl ?_; intro g cap w4 hown4 hgrow hat hlt4; have HB4 := (HBX.out.later (hb3'.trans ((below_alloc1 w3 _).mono hb3'.size))).grown hgrow HNE.out; have c4 := HB4.cells.2; have f4 := HB4.free.2; go_simp)
                (first | (refine hK _ _ ?_; clear hK K) | skip)
                (refine wpAny_take (i := 11) (v := ?_) (by simp only [List.getElem?_toArray, List.getElem?_cons_succ, List.getElem?_cons_zero]; rfl) (by kernel_rfl) (by kernel_rfl) (by kernel_rfl) (by exact fun _ _ _ h => h) (Or.inl ⟨by rfl, ?_⟩) ?_; rotate_left 1; · (intro w; go_simp; (try with_reducible rfl)))
                refine wpAny_ready (rs := [12]) (by kernel_rfl) (by simp) ?_
                refine AllReady.cons (by simp only [List.getElem?_toArray, List.getElem?_cons_succ, List.getElem?_cons_zero]; rfl) (fun K hK => ?_) ?_
                · go_simp
                  (first | (refine hK _ _ ?_; clear hK K) | skip)
                  refine wpAny_done (by kernel_rfl) ?_ _
                  have hfin := HSTEP.out (kb) (T.parse (x.extract 2 x.size)).1 w3 w4 _ _ _ g cap (by have := HKB.out; omega) hb3' hti hown4 hgrow (hat.imp id (fun h => h.trans (size_alloc1 _ _)))
                  rw [show (kb, (T.parse (x.extract 2 x.size)).1) = moveOf x by first | (rw [HMV.out]; done) | (rw [HMV.out]; rfl), HTK.out] at hfin
                  have HFIN := Lib.hid hfin
                  clear hfin hgrow hown4 hti c4 f4 HB4 z0 z1 zz1 hat hlt4
                  go_wp2_with fail
                  go_roundw
                  case rel => exact ⟨j + 1, HLT.out, by go_num, HFIN.out⟩
                  case measure => have := HLT.out; simp [intOf]; omega
                exact AllReady.nil
              exact AllReady.nil
            exact AllReady.nil
          exact AllReady.nil
        exact AllReady.nil
      refine AllReady.cons (by simp only [List.getElem?_toArray, List.getElem?_cons_succ, List.getElem?_cons_zero]; rfl) (fun K hK => ?_) ?_
      · (go_simp; go_at_call 140; refine (HI.out _).mono ?_; rintro e w2 ⟨rfl, rfl⟩)
        (first | (refine hK _ _ ?_; clear hK K) | skip)
        (refine wpAny_take (i := 5) (v := ?_) (by simp only [List.getElem?_toArray, List.getElem?_cons_succ, List.getElem?_cons_zero]; rfl) (by kernel_rfl) (by kernel_rfl) (by kernel_rfl) (by exact fun _ _ _ h => h) (Or.inl ⟨by rfl, ?_⟩) ?_; rotate_left 1; · (intro w; go_simp; (try with_reducible rfl)))
        refine wpAny_ready (rs := [1, 8]) (by kernel_rfl) (by simp) ?_
        refine AllReady.cons (by simp only [List.getElem?_toArray, List.getElem?_cons_succ, List.getElem?_cons_zero]; rfl) (fun K hK => ?_) ?_
        · go_simp
          (first | (refine hK _ _ ?_; clear hK K) | skip)
          refine wpAny_ready (rs := [8]) (by kernel_rfl) (by simp) ?_
          refine AllReady.cons (by simp only [List.getElem?_toArray, List.getElem?_cons_succ, List.getElem?_cons_zero]; rfl) (fun K hK => ?_) ?_
          · (go_simp; go_at_call 71; refine (omove kb _ _).mono ?_; rintro e w3 ⟨A3, C3, rfl, hti, hb3⟩; have hb3' := below_undrew hb3; have z0 := cell_later hb3' y0; have z1 := cell_later hb3' y1; have zz1 := cell_later (below_alloc1 w3 (.cells #[.int .i64 (kb), .int .i64 (T.parse (x.extract 2 x.size)).1.kind, .string (T.parse (x.extract 2 x.size)).1.name, .slice A3 (T.parse (x.extract 2 x.size)).1.kids.length C3] 52)) z1; have HOWN3 := Lib.hid ((own_later HOWN.out hb3').alloc (.cells #[.int .i64 (kb), .int .i64 (T.parse (x.extract 2 x.size)).1.kind, .string (T.parse (x.extract 2 x.size)).1.name, .slice A3 (T.parse (x.extract 2 x.size)).1.kids.length C3] 52)); have HONE := Lib.hid (move_one (k := kb) hti); have HBS := Lib.hid (show w.heap.size + 2 ≤ (w3.alloc (.cells #[.int .i64 (kb), .int .i64 (T.parse (x.extract 2 x.size)).1.kind, .string (T.parse (x.extract 2 x.size)).1.name, .slice A3 (T.parse (x.extract 2 x.size)).1.kids.length C3] 52)).heap.size by rw [size_alloc1]; have := hb3'.size; have := HSZ.out; omega))
            (first | (refine hK _ _ ?_; clear hK K) | skip)
            refine wpAny_ready (rs := [9]) (by kernel_rfl) (by simp) ?_
            refine AllReady.cons (by simp only [List.getElem?_toArray, List.getElem?_cons_succ, List.getElem?_cons_zero]; rfl) (fun K hK => ?_) ?_
            · go_simp
              (first | (refine hK _ _ ?_; clear hK K) | skip)
              refine wpAny_ready (rs := [10]) (by kernel_rfl) (by simp) ?_
              refine AllReady.cons (by simp only [List.getElem?_toArray, List.getElem?_cons_succ, List.getElem?_cons_zero]; rfl) (fun K hK => ?_) ?_
              · (refine step_append_lies _ (by rfl) _ _ _ (by rfl) (w.heap.size + 2) 52 i0 _ 4 56 Tryz.underlying47 hi0 hz0 hz1 hz2 rfl (by omega) _ _ _ (by rfl) HOWN3.out ⟨_, 0, none⟩ 1 1 _ (by rfl) (by rfl) (World.news_of_block (heap_alloc_new _ _)) HONE.out (by omega) (by unfold maxLen; omega) (by omega) HBS.out _ rfl ?_; intro g cap w4 hown4 hgrow hat hlt4; have HB4 := (HBX.out.later (hb3'.trans ((below_alloc1 w3 _).mono hb3'.size))).grown hgrow HNE.out; have c4 := HB4.cells.2; have f4 := HB4.free.2; go_simp)
                (first | (refine hK _ _ ?_; clear hK K) | skip)
                (refine wpAny_take (i := 11) (v := ?_) (by simp only [List.getElem?_toArray, List.getElem?_cons_succ, List.getElem?_cons_zero]; rfl) (by kernel_rfl) (by kernel_rfl) (by kernel_rfl) (by exact fun _ _ _ h => h) (Or.inl ⟨by rfl, ?_⟩) ?_; rotate_left 1; · (intro w; go_simp; (try with_reducible rfl)))
                refine wpAny_ready (rs := [12]) (by kernel_rfl) (by simp) ?_
                refine AllReady.cons (by simp only [List.getElem?_toArray, List.getElem?_cons_succ, List.getElem?_cons_zero]; rfl) (fun K hK => ?_) ?_
                · go_simp
                  (first | (refine hK _ _ ?_; clear hK K) | skip)
                  refine wpAny_done (by kernel_rfl) ?_ _
                  have hfin := HSTEP.out (kb) (T.parse (x.extract 2 x.size)).1 w3 w4 _ _ _ g cap (by have := HKB.out; omega) hb3' hti hown4 hgrow (hat.imp id (fun h => h.trans (size_alloc1 _ _)))
                  rw [show (kb, (T.parse (x.extract 2 x.size)).1) = moveOf x by first | (rw [HMV.out]; done) | (rw [HMV.out]; rfl), HTK.out] at hfin
                  have HFIN := Lib.hid hfin
                  clear hfin hgrow hown4 hti c4 f4 HB4 z0 z1 zz1 hat hlt4
                  go_wp2_with fail
                  go_roundw
                  case rel => exact ⟨j + 1, HLT.out, by go_num, HFIN.out⟩
                  case measure => have := HLT.out; simp [intOf]; omega
                exact AllReady.nil
              exact AllReady.nil
            exact AllReady.nil
          exact AllReady.nil
        refine AllReady.cons (by simp only [List.getElem?_toArray, List.getElem?_cons_succ, List.getElem?_cons_zero]; rfl) (fun K hK => ?_) ?_
        · (go_simp; go_at_call 71; refine (omove kb _ _).mono ?_; rintro e w3 ⟨A3, C3, rfl, hti, hb3⟩; have hb3' := below_undrew hb3; have z0 := cell_later hb3' y0; have z1 := cell_later hb3' y1; have zz1 := cell_later (below_alloc1 w3 (.cells #[.int .i64 (kb), .int .i64 (T.parse (x.extract 2 x.size)).1.kind, .string (T.parse (x.extract 2 x.size)).1.name, .slice A3 (T.parse (x.extract 2 x.size)).1.kids.length C3] 52)) z1; have HOWN3 := Lib.hid ((own_later HOWN.out hb3').alloc (.cells #[.int .i64 (kb), .int .i64 (T.parse (x.extract 2 x.size)).1.kind, .string (T.parse (x.extract 2 x.size)).1.name, .slice A3 (T.parse (x.extract 2 x.size)).1.kids.length C3] 52)); have HONE := Lib.hid (move_one (k := kb) hti); have HBS := Lib.hid (show w.heap.size + 2 ≤ (w3.alloc (.cells #[.int .i64 (kb), .int .i64 (T.parse (x.extract 2 x.size)).1.kind, .string (T.parse (x.extract 2 x.size)).1.name, .slice A3 (T.parse (x.extract 2 x.size)).1.kids.length C3] 52)).heap.size by rw [size_alloc1]; have := hb3'.size; have := HSZ.out; omega))
          (first | (refine hK _ _ ?_; clear hK K) | skip)
          refine wpAny_ready (rs := [1, 9]) (by kernel_rfl) (by simp) ?_
          refine AllReady.cons (by simp only [List.getElem?_toArray, List.getElem?_cons_succ, List.getElem?_cons_zero]; rfl) (fun K hK => ?_) ?_
          · go_simp
            (first | (refine hK _ _ ?_; clear hK K) | skip)
            refine wpAny_ready (rs := [9]) (by kernel_rfl) (by simp) ?_
            refine AllReady.cons (by simp only [List.getElem?_toArray, List.getElem?_cons_succ, List.getElem?_cons_zero]; rfl) (fun K hK => ?_) ?_
            · go_simp
              (first | (refine hK _ _ ?_; clear hK K) | skip)
              refine wpAny_ready (rs := [10]) (by kernel_rfl) (by simp) ?_
              refine AllReady.cons (by simp only [List.getElem?_toArray, List.getElem?_cons_succ, List.getElem?_cons_zero]; rfl) (fun K hK => ?_) ?_
              · (refine step_append_lies _ (by rfl) _ _ _ (by rfl) (w.heap.size + 2) 52 i0 _ 4 56 Tryz.underlying47 hi0 hz0 hz1 hz2 rfl (by omega) _ _ _ (by rfl) HOWN3.out ⟨_, 0, none⟩ 1 1 _ (by rfl) (by rfl) (World.news_of_block (heap_alloc_new _ _)) HONE.out (by omega) (by unfold maxLen; omega) (by omega) HBS.out _ rfl ?_; intro g cap w4 hown4 hgrow hat hlt4; have HB4 := (HBX.out.later (hb3'.trans ((below_alloc1 w3 _).mono hb3'.size))).grown hgrow HNE.out; have c4 := HB4.cells.2; have f4 := HB4.free.2; go_simp)
                (first | (refine hK _ _ ?_; clear hK K) | skip)
                (refine wpAny_take (i := 11) (v := ?_) (by simp only [List.getElem?_toArray, List.getElem?_cons_succ, List.getElem?_cons_zero]; rfl) (by kernel_rfl) (by kernel_rfl) (by kernel_rfl) (by exact fun _ _ _ h => h) (Or.inl ⟨by rfl, ?_⟩) ?_; rotate_left 1; · (intro w; go_simp; (try with_reducible rfl)))
                refine wpAny_ready (rs := [12]) (by kernel_rfl) (by simp) ?_
                refine AllReady.cons (by simp only [List.getElem?_toArray, List.getElem?_cons_succ, List.getElem?_cons_zero]; rfl) (fun K hK => ?_) ?_
                · go_simp
                  (first | (refine hK _ _ ?_; clear hK K) | skip)
                  refine wpAny_done (by kernel_rfl) ?_ _
                  have hfin := HSTEP.out (kb) (T.parse (x.extract 2 x.size)).1 w3 w4 _ _ _ g cap (by have := HKB.out; omega) hb3' hti hown4 hgrow (hat.imp id (fun h => h.trans (size_alloc1 _ _)))
                  rw [show (kb, (T.parse (x.extract 2 x.size)).1) = moveOf x by first | (rw [HMV.out]; done) | (rw [HMV.out]; rfl), HTK.out] at hfin
                  have HFIN := Lib.hid hfin
                  clear hfin hgrow hown4 hti c4 f4 HB4 z0 z1 zz1 hat hlt4
                  go_wp2_with fail
                  go_roundw
                  case rel => exact ⟨j + 1, HLT.out, by go_num, HFIN.out⟩
                  case measure => have := HLT.out; simp [intOf]; omega
                exact AllReady.nil
              exact AllReady.nil
            exact AllReady.nil
          refine AllReady.cons (by simp only [List.getElem?_toArray, List.getElem?_cons_succ, List.getElem?_cons_zero]; rfl) (fun K hK => ?_) ?_
          · go_simp
            (first | (refine hK _ _ ?_; clear hK K) | skip)
            refine wpAny_ready (rs := [1]) (by kernel_rfl) (by simp) ?_
            refine AllReady.cons (by simp only [List.getElem?_toArray, List.getElem?_cons_succ, List.getElem?_cons_zero]; rfl) (fun K hK => ?_) ?_
            · go_simp
              (first | (refine hK _ _ ?_; clear hK K) | skip)
              refine wpAny_ready (rs := [10]) (by kernel_rfl) (by simp) ?_
              refine AllReady.cons (by simp only [List.getElem?_toArray, List.getElem?_cons_succ, List.getElem?_cons_zero]; rfl) (fun K hK => ?_) ?_
              · (refine step_append_lies _ (by rfl) _ _ _ (by rfl) (w.heap.size + 2) 52 i0 _ 4 56 Tryz.underlying47 hi0 hz0 hz1 hz2 rfl (by omega) _ _ _ (by rfl) HOWN3.out ⟨_, 0, none⟩ 1 1 _ (by rfl) (by rfl) (World.news_of_block (heap_alloc_new _ _)) HONE.out (by omega) (by unfold maxLen; omega) (by omega) HBS.out _ rfl ?_; intro g cap w4 hown4 hgrow hat hlt4; have HB4 := (HBX.out.later (hb3'.trans ((below_alloc1 w3 _).mono hb3'.size))).grown hgrow HNE.out; have c4 := HB4.cells.2; have f4 := HB4.free.2; go_simp)
                (first | (refine hK _ _ ?_; clear hK K) | skip)
                (refine wpAny_take (i := 11) (v := ?_) (by simp only [List.getElem?_toArray, List.getElem?_cons_succ, List.getElem?_cons_zero]; rfl) (by kernel_rfl) (by kernel_rfl) (by kernel_rfl) (by exact fun _ _ _ h => h) (Or.inl ⟨by rfl, ?_⟩) ?_; rotate_left 1; · (intro w; go_simp; (try with_reducible rfl)))
                refine wpAny_ready (rs := [12]) (by kernel_rfl) (by simp) ?_
                refine AllReady.cons (by simp only [List.getElem?_toArray, List.getElem?_cons_succ, List.getElem?_cons_zero]; rfl) (fun K hK => ?_) ?_
                · go_simp
                  (first | (refine hK _ _ ?_; clear hK K) | skip)
                  refine wpAny_done (by kernel_rfl) ?_ _
                  have hfin := HSTEP.out (kb) (T.parse (x.extract 2 x.size)).1 w3 w4 _ _ _ g cap (by have := HKB.out; omega) hb3' hti hown4 hgrow (hat.imp id (fun h => h.trans (size_alloc1 _ _)))
                  rw [show (kb, (T.parse (x.extract 2 x.size)).1) = moveOf x by first | (rw [HMV.out]; done) | (rw [HMV.out]; rfl), HTK.out] at hfin
                  have HFIN := Lib.hid hfin
                  clear hfin hgrow hown4 hti c4 f4 HB4 z0 z1 zz1 hat hlt4
                  go_wp2_with fail
                  go_roundw
                  case rel => exact ⟨j + 1, HLT.out, by go_num, HFIN.out⟩
                  case measure => have := HLT.out; simp [intOf]; omega
                exact AllReady.nil
              exact AllReady.nil
            exact AllReady.nil
          exact AllReady.nil
        exact AllReady.nil
      exact AllReady.nil
    · obtain rfl : j = ts.length := by omega
      rw [List.take_of_length_le (by simp)] at hat
      obtain ⟨kv, bx, bz, hrow, hbw, hsz⟩ := hat
      obtain ⟨A4, C4, hkv, hmv⟩ := hrow.moves
      rw [HL.out] at hkv hmv
      obtain ⟨y0, y1⟩ := bx.cells
      obtain ⟨q0, q1⟩ := bz.cells
      obtain ⟨f0, f1⟩ := bz.free
      have HMV := Lib.hid hmv
      have HBW := Lib.hid hbw; have HBZ := Lib.hid bz
      rw [hkv] at y1
      clear hkv hrow hbw bx bz hmv
      go_wp2_with fail
      obtain ⟨d0, d1⟩ := (HBZ.out.set2 (.string role) (.slice A4 L.length C4)).cells
      refine bodyPost_ret (v := .agg #[.string role, .slice A4 L.length C4]) (by simp [results, Tryz.results113, go_sem, d0, d1]) rfl ?_
      refine ⟨A4, C4, rfl, HMV.out.keep fun b hb _ => ?_, (HBW.out.setCell (Nat.le_refl _) _).setCell (Nat.le_refl _) _⟩
      have := of_decide_eq_true hb
      exact ⟨decide_eq_true (by omega), sset2_other _ _ _ _ _ (by omega)⟩
end Go.Proofs.YtihbmgkbipeakaaGreat

namespace Go.Proofs.YtihbmgkbipeakaaGreat
open Go.RowKit

abbrev b_passive : ByteArray := ⟨#[112, 97, 115, 115, 105, 118, 101]⟩
abbrev b_active : ByteArray := ⟨#[97, 99, 116, 105, 118, 101]⟩
abbrev b_exchange : ByteArray := ⟨#[101, 120, 99, 104, 97, 110, 103, 101]⟩
abbrev b_blind : ByteArray := ⟨#[98, 108, 105, 110, 100]⟩
abbrev b_clone : ByteArray := ⟨#[99, 108, 111, 110, 101]⟩
abbrev b_chip : ByteArray := ⟨#[99, 104, 105, 112]⟩
abbrev b_reader : ByteArray := ⟨#[114, 101, 97, 100, 101, 114]⟩
abbrev x_cA : List ByteArray := [⟨#[83, 32, 115, 105, 103, 110, 40, 115, 116, 97, 116, 101, 44, 32, 60, 100, 97, 116, 97, 44, 32, 112, 111, 119, 101, 114, 40, 99, 104, 105, 112, 41, 62, 41]⟩, ⟨#[82, 32, 63, 110]⟩, ⟨#[68, 32, 63, 110]⟩, ⟨#[83, 32, 115, 105, 103, 110, 40, 99, 104, 105, 112, 44, 32, 63, 110, 41]⟩]
abbrev x_cE : List ByteArray := [⟨#[83, 32, 115, 105, 103, 110, 40, 115, 116, 97, 116, 101, 44, 32, 60, 100, 97, 116, 97, 44, 32, 112, 111, 119, 101, 114, 40, 99, 104, 105, 112, 41, 62, 41]⟩, ⟨#[82, 32, 112, 111, 119, 101, 114, 40, 63, 120, 41]⟩, ⟨#[68, 32, 104, 97, 115, 104, 40, 112, 111, 119, 101, 114, 40, 99, 104, 105, 112, 44, 32, 63, 120, 41, 41]⟩, ⟨#[83, 32, 104, 97, 115, 104, 40, 112, 111, 119, 101, 114, 40, 99, 104, 105, 112, 44, 32, 63, 120, 41, 41]⟩]
def m_cE : List (Int × T) := x_cE.map moveOf
def s_cE : ByteArray × List (Int × T) := (b_chip, m_cE)
abbrev x_cP : List ByteArray := [⟨#[83, 32, 115, 105, 103, 110, 40, 115, 116, 97, 116, 101, 44, 32, 60, 100, 97, 116, 97, 44, 32, 112, 111, 119, 101, 114, 40, 99, 104, 105, 112, 41, 62, 41]⟩, ⟨#[68, 32, 100, 97, 116, 97]⟩]
abbrev x_rA : List ByteArray := [⟨#[82, 32, 115, 105, 103, 110, 40, 115, 116, 97, 116, 101, 44, 32, 60, 63, 100, 44, 32, 112, 111, 119, 101, 114, 40, 63, 99, 41, 62, 41]⟩, ⟨#[83, 32, 110, 111, 110, 99, 101]⟩, ⟨#[82, 32, 115, 105, 103, 110, 40, 63, 99, 44, 32, 110, 111, 110, 99, 101, 41]⟩, ⟨#[67, 32, 110, 111, 110, 99, 101]⟩]
abbrev x_rE : List ByteArray := [⟨#[82, 32, 115, 105, 103, 110, 40, 115, 116, 97, 116, 101, 44, 32, 60, 63, 100, 44, 32, 112, 111, 119, 101, 114, 40, 63, 99, 41, 62, 41]⟩, ⟨#[83, 32, 112, 111, 119, 101, 114, 40, 101, 112, 104, 41]⟩, ⟨#[82, 32, 104, 97, 115, 104, 40, 112, 111, 119, 101, 114, 40, 101, 112, 104, 44, 32, 63, 99, 41, 41]⟩, ⟨#[67, 32, 104, 97, 115, 104, 40, 112, 111, 119, 101, 114, 40, 101, 112, 104, 44, 32, 63, 99, 41, 41]⟩]
def m_rE : List (Int × T) := x_rE.map moveOf
def s_rE : ByteArray × List (Int × T) := (b_reader, m_rE)
abbrev x_rP : List ByteArray := [⟨#[82, 32, 115, 105, 103, 110, 40, 115, 116, 97, 116, 101, 44, 32, 60, 63, 100, 44, 32, 63, 112, 62, 41]⟩, ⟨#[67, 32, 63, 100]⟩]
abbrev x_known : List ByteArray := [⟨#[100, 97, 116, 97]⟩, ⟨#[115, 105, 103, 110, 40, 115, 116, 97, 116, 101, 44, 32, 60, 100, 97, 116, 97, 44, 32, 112, 111, 119, 101, 114, 40, 99, 104, 105, 112, 41, 62, 41]⟩, ⟨#[112, 111, 119, 101, 114, 40, 115, 116, 97, 116, 101, 41]⟩, ⟨#[101, 118, 105, 108]⟩, ⟨#[112, 111, 119, 101, 114, 40, 101, 118, 105, 108, 41]⟩]
def m_known : List T := x_known.map fun x => (T.parse x).1
def goodB (x : ByteArray) : Bool := decide (2 ≤ x.size) && (x.data.toList.getD 0 0 == 83 || (x.data.toList.getD 0 0 == 82 || (x.data.toList.getD 0 0 == 67 || x.data.toList.getD 0 0 == 68)))
theorem good_all (ts : List ByteArray) (h : ts.all goodB = true) : ∀ x ∈ ts, goodText x := by
  intro x hx
  have h1 := List.all_eq_true.1 h x hx
  simp only [goodB, Bool.and_eq_true, Bool.or_eq_true, decide_eq_true_eq, beq_iff_eq] at h1
  exact ⟨h1.1, h1.2⟩
theorem texts_new (w : World) (ts : List ByteArray) : TextsAt (w.alloc (.cells (ts.map Value.string).toArray 9)) (some ⟨w.heap.size, 0, none⟩) ts := by
  refine ⟨by simp, .inr ⟨_, 0, rfl, fun j u hu => ?_⟩⟩
  have h := heap_alloc_new w (.cells (ts.map Value.string).toArray 9)
  rw [Nat.zero_add]
  unfold World.cell?
  rw [h]
  simpa using hu
theorem RetS.box {s : ByteArray × List (Int × T)} {w w1 w2 : World} {A : Option Addr} {c : Nat} (x y : Value) (hw : Below w.heap.size w w1) (hlt : w.heap.size < w1.heap.size) (h : MovesIn (from_ w1.heap.size) w2 A s.2) (hb : Below w1.heap.size w1 w2) :
    RetS s w (.returned (.agg #[.string s.1, .slice A s.2.length c])) ((w2.setCell ⟨w.heap.size, 0, none⟩ x).setCell ⟨w.heap.size, 1, none⟩ y) := by
  refine ⟨A, c, rfl, h.keep fun b hb' _ => ?_, ((hw.trans (hb.mono (by omega))).setCell (Nat.le_refl _) _).setCell (Nat.le_refl _) _⟩
  have := of_decide_eq_true hb'
  exact ⟨decide_eq_true (by omega), sset2_other _ _ _ _ _ (by omega)⟩

set_option maxRecDepth 100000 in
set_option maxHeartbeats 2000000 in
theorem ochip_exchange (w : World) : Calls Tryz.prog 69 #[.string b_exchange] w (RetS s_cE w) := by
  have hb0 := SBox.new w (.string ⟨#[]⟩) (.slice none 0 0)
  have hw := below_alloc1 w (.cells #[.string ⟨#[]⟩, .slice none 0 0] 49)
  have hz := size_alloc1 w (.cells #[.string ⟨#[]⟩, .slice none 0 0] 49)
  go_enter Tryz.func69, Tryz.ntmps69
  go_upto_region 1 with fail
  generalize w.alloc (.cells #[.string ⟨#[]⟩, .slice none 0 0] 49) = w1 at hb0 hw hz ⊢
  have HB0 := Lib.hid hb0; have HW := Lib.hid hw; have HZ := Lib.hid hz
  clear hb0 hw hz
  go_wp2_with fail
  refine (ostrand b_chip x_cE (some ⟨w1.heap.size, 0, none⟩) 4 _ (by decide) (texts_new w1 x_cE) (good_all _ (by kernel_rfl)) m_cE rfl).mono ?_; rintro e w2 ⟨A2, C2, rfl, hm2, hb2⟩
  have hw1 := below_alloc1 w1 (.cells (x_cE.map Value.string).toArray 9)
  have HM2 := Lib.hid (hm2.keep (S' := from_ w1.heap.size) (w' := w2) fun b hb _ => ⟨decide_eq_true (by have := of_decide_eq_true hb; rw [size_alloc1] at this; omega), rfl⟩)
  have HB2 := Lib.hid (hw1.trans (hb2.mono (by rw [size_alloc1]; omega)))
  have HBX := Lib.hid (HB0.out.later HB2.out)
  obtain ⟨q0, q1⟩ := HBX.out.cells
  obtain ⟨f0, f1⟩ := HBX.out.free
  clear hm2 hb2 hw1
  go_wp2_with fail
  obtain ⟨d0, d1⟩ := (HBX.out.set2 (.string b_chip) (.slice A2 m_cE.length C2)).cells
  refine bodyPost_ret (v := .agg #[.string b_chip, .slice A2 m_cE.length C2]) (by simp [results, Tryz.results69, go_sem, d0, d1]) rfl ?_
  exact RetS.box (s := s_cE) _ _ HW.out (by rw [HZ.out]; omega) HM2.out HB2.out
set_option maxRecDepth 100000 in
set_option maxHeartbeats 2000000 in
theorem oreader_exchange (w : World) : Calls Tryz.prog 70 #[.string b_exchange] w (RetS s_rE w) := by
  have hb0 := SBox.new w (.string ⟨#[]⟩) (.slice none 0 0)
  have hw := below_alloc1 w (.cells #[.string ⟨#[]⟩, .slice none 0 0] 49)
  have hz := size_alloc1 w (.cells #[.string ⟨#[]⟩, .slice none 0 0] 49)
  go_enter Tryz.func70, Tryz.ntmps70
  go_upto_region 1 with fail
  generalize w.alloc (.cells #[.string ⟨#[]⟩, .slice none 0 0] 49) = w1 at hb0 hw hz ⊢
  have HB0 := Lib.hid hb0; have HW := Lib.hid hw; have HZ := Lib.hid hz
  clear hb0 hw hz
  go_wp2_with fail
  refine (ostrand b_reader x_rE (some ⟨w1.heap.size, 0, none⟩) 4 _ (by decide) (texts_new w1 x_rE) (good_all _ (by kernel_rfl)) m_rE rfl).mono ?_; rintro e w2 ⟨A2, C2, rfl, hm2, hb2⟩
  have hw1 := below_alloc1 w1 (.cells (x_rE.map Value.string).toArray 9)
  have HM2 := Lib.hid (hm2.keep (S' := from_ w1.heap.size) (w' := w2) fun b hb _ => ⟨decide_eq_true (by have := of_decide_eq_true hb; rw [size_alloc1] at this; omega), rfl⟩)
  have HB2 := Lib.hid (hw1.trans (hb2.mono (by rw [size_alloc1]; omega)))
  have HBX := Lib.hid (HB0.out.later HB2.out)
  obtain ⟨q0, q1⟩ := HBX.out.cells
  obtain ⟨f0, f1⟩ := HBX.out.free
  clear hm2 hb2 hw1
  go_wp2_with fail
  obtain ⟨d0, d1⟩ := (HBX.out.set2 (.string b_reader) (.slice A2 m_rE.length C2)).cells
  refine bodyPost_ret (v := .agg #[.string b_reader, .slice A2 m_rE.length C2]) (by simp [results, Tryz.results70, go_sem, d0, d1]) rfl ?_
  exact RetS.box (s := s_rE) _ _ HW.out (by rw [HZ.out]; omega) HM2.out HB2.out
end Go.Proofs.YtihbmgkbipeakaaGreat
