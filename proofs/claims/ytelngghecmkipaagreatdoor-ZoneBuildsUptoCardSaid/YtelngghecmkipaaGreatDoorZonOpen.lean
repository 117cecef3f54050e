/- Chapter 11: a zone that came in, opened. -/
import Derived.Test.YtelngghecmkipaaGreatDoorZonGW
namespace Go.Proofs.YtelngghecmkipaaGreatDoor
open Go.RowKit Go.ChangeShapes Go.WideShapes Go.Deep

theorem cellsZone : Tryz.prog.cellsOf 24 = 12 := by kernel_rfl
theorem cellsStr : Tryz.prog.cellsOf 9 = 1 := by kernel_rfl
theorem cellsInt : Tryz.prog.cellsOf 3 = 1 := by kernel_rfl
set_option maxRecDepth 100000 in
set_option maxHeartbeats 1000000 in
theorem open_zone {H : Type} {enc : TypeId × Value → H} {w : World} {b0 : Nat} {v : Value} {d : DataW H} {p : List MemPlace} {r : Reach}
    (hv : Value.okWide Tryz.prog w r b0 24 v) (hd : DataW.Trod enc Tryz.prog w 0 (fun _ => true) true 24 v d p) :
    ∃ z : Zn.Z, v = z.val ∧ z.fits (Rows.uptoBulk d) ∧ z.sur.size + z.giv.size ≤ Rows.uptoBulk d := by
  obtain ⟨fuel, hf⟩ := hd
  obtain ⟨cs, rfl, _⟩ := okWide_struct Tryz.underlying24 hv
  have hf' : DataW.trod enc Tryz.prog w 0 (fun _ => true) true fuel 24 cs.toList = some (d, p) := by simpa [Value.cells] using hf
  obtain ⟨l, rfl⟩ : ∃ l : List Value, cs = l.toArray := ⟨cs.toList, by simp⟩
  rw [List.toList_toArray] at hf'
  clear hf hv
  obtain ⟨xs, n, rfl, hx, hcl, hxl, hg⟩ := DataW.trod_struct Tryz.underlying24 hf'
  rw [cellsZone] at hcl
  match l, hcl with
  | [c0, c1, c2, c3, c4, c5, c6, c7, c8, c9, c10, c11], _ =>
    match xs, hxl with
    | [y0, y1, y2, y3, y4, y5, y6, y7, y8, y9, y10, y11], _ =>
      have g0 := hg 0 _ rfl
      have g1 := hg 1 _ rfl
      have g2 := hg 2 _ rfl
      have g3 := hg 3 _ rfl
      have g4 := hg 4 _ rfl
      have g5 := hg 5 _ rfl
      have g6 := hg 6 _ rfl
      have g7 := hg 7 _ rfl
      have g8 := hg 8 _ rfl
      have g9 := hg 9 _ rfl
      have g10 := hg 10 _ rfl
      have g11 := hg 11 _ rfl
      simp [cellsStr, cellsInt] at g0 g1 g2 g3 g4 g5 g6 g7 g8 g9 g10 g11
      obtain ⟨k, e0, hy0, wk⟩ := DataW.trod_int Tryz.underlying3 g0
      obtain ⟨s1, e1, hy1, w1⟩ := DataW.trod_string Tryz.underlying9 g1
      obtain ⟨s2, e2, hy2, w2⟩ := DataW.trod_string Tryz.underlying9 g2
      obtain ⟨s3, e3, hy3, w3⟩ := DataW.trod_string Tryz.underlying9 g3
      obtain ⟨s4, e4, hy4, w4⟩ := DataW.trod_string Tryz.underlying9 g4
      obtain ⟨s5, e5, hy5, w5⟩ := DataW.trod_string Tryz.underlying9 g5
      obtain ⟨s6, e6, hy6, w6⟩ := DataW.trod_string Tryz.underlying9 g6
      obtain ⟨s7, e7, hy7, w7⟩ := DataW.trod_string Tryz.underlying9 g7
      obtain ⟨s8, e8, hy8, w8⟩ := DataW.trod_string Tryz.underlying9 g8
      obtain ⟨s9, e9, hy9, w9⟩ := DataW.trod_string Tryz.underlying9 g9
      obtain ⟨s10, e10, hy10, w10⟩ := DataW.trod_string Tryz.underlying9 g10
      obtain ⟨s11, e11, hy11, w11⟩ := DataW.trod_string Tryz.underlying9 g11
      simp at e0 e1 e2 e3 e4 e5 e6 e7 e8 e9 e10 e11
      subst e0 e1 e2 e3 e4 e5 e6 e7 e8 e9 e10 e11
      rw [Prod.mk.injEq] at hx
      obtain ⟨rfl, -⟩ := hx
      subst hy0 hy1 hy2 hy3 hy4 hy5 hy6 hy7 hy8 hy9 hy10 hy11
      refine ⟨⟨k, s1, s2, s3, s4, s5, s6, s7, s8, s9, s10, s11⟩, rfl, ?_, ?_⟩
      · unfold Zn.Z.fits
        simp only [Rows.uptoBulk, Rows.uptoBulkAll, List.map_cons, List.map_nil, Opt.size_len]
        omega
      · simp only [Rows.uptoBulk, Rows.uptoBulkAll, List.map_cons, List.map_nil, Opt.size_len]
        omega
theorem Zn.Z.fits.le {z : Zn.Z} {a b : Nat} (h : z.fits a) (hab : a ≤ b) : z.fits b := by unfold Zn.Z.fits at *; omega
set_option maxRecDepth 100000 in
theorem walkZoneBuilds {H : Type} {enc : TypeId × Value → H} {X : Prop} (w : World) (v : Value) (d : DataW H) {b0 : Nat} {p : List MemPlace} {r : Reach} (hv : Value.okWide Tryz.prog w r b0 24 v) (hd : DataW.Trod enc Tryz.prog w 0 (fun _ => true) true 24 v d p)
    (_hsz : X) (hk : Rows.uptoSmall H ([d] ++ []) = true) (hL : laidMetH Tryz.prog Rows.zoneParsesRow.laid w) (hsh : w.ShapedOpen Tryz.prog) :
    Calls Tryz.prog 7 #[v] w fun e w' => e = .returned (.bool true) ∧ Below w.heap.size w w' := by
  have h1 := of_decide_eq_true hk
  simp only [List.append_nil, Rows.uptoBulkAll] at h1
  obtain ⟨z, rfl, hz, hab⟩ := open_zone hv hd
  exact zone_builds z w (hz.le (by omega)) (Dat.at_of hL) (Opt.lax_of hsh) (by omega)
end Go.Proofs.YtelngghecmkipaaGreatDoor
