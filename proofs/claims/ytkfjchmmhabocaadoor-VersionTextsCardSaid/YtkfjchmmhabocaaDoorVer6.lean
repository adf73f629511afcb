/- What an argument that is a version reads as. -/
import Derived.Test.YtkfjchmmhabocaaDoorTy
import Derived.Test.YtkfjchmmhabocaaDoorNod1
import Derived.Test.YtkfjchmmhabocaaDoorAl3
import Derived.Test.YtkfjchmmhabocaaDoorAl4
set_option linter.unusedVariables false
namespace Go.AL
open Go Go.Proofs Go.RowKit Go.ChangeShapes Go.WideShapes

set_option maxRecDepth 100000 in
theorem vr_open {H : Type} {enc : TypeId × Value → H} {w : World} {base : Nat} {spare : Nat → Bool} {held : Bool} {mul : TypeId → Nat} {wt : TypeId → DataW H → List Nat} {B : Nat} (hwt : WtOK Tryd.prog mul wt) (fuel : Nat) (cs : List Value) (d : DataW H × List MemPlace) (h : DataW.trod enc Tryd.prog w base spare held fuel 24 cs = some d) (hB : ∀ n ∈ wt 24 d.1, n ≤ B) :
    ∃ x : Vr, x.p.size ≤ B ∧ cs.length = 5 ∧ ∀ (g : Nat → Option Value) (o : Nat), (∀ i u, cs[i]? = some u → g (o + i) = some u) → RepL (heapOf w) g o x.toT.cells := by
  obtain ⟨xs, m, hfu, rfl, hl, hlen, hf⟩ := DataW.trod_struct Tryd.underlying24 h
  have hc5 : Tryd.prog.cellsOf 24 = 5 := by kernel_rfl
  rw [hc5] at hl
  have hlen5 : xs.length = 5 := hlen
  obtain ⟨y0, y1, y2, y3, y4, rfl⟩ : ∃ y0 y1 y2 y3 y4, xs = [y0, y1, y2, y3, y4] := by
    match xs, hlen5 with
    | [y0, y1, y2, y3, y4], _ => exact ⟨_, _, _, _, _, rfl⟩
  obtain ⟨u0, u1, u2, u3, u4, rfl⟩ : ∃ u0 u1 u2 u3 u4, cs = [u0, u1, u2, u3, u4] := by
    match cs, hl with
    | [u0, u1, u2, u3, u4], _ => exact ⟨_, _, _, _, _, rfl⟩
  have part : ∀ {fs : Array Field} (hu : Tryd.prog.underlying 24 = some (.struct fs)) (i : Nat) (f : Field) (p : DataW H × List MemPlace), fs[i]? = some f → [y0, y1, y2, y3, y4][i]? = some p → ∀ n ∈ wt f.type p.1, n ≤ B := fun {fs} hu i f p h1 h2 n hn => by
    obtain ⟨q, k1, k2⟩ := hwt.part 24 fs ([y0, y1, y2, y3, y4].map (·.1)) i f p.1 hu h1 (by rw [List.getElem?_map, h2]; rfl) n hn
    exact Nat.le_trans k2 (hB q k1)
  have c3 : Tryd.prog.cellsOf 3 = 1 := by kernel_rfl
  have c9 : Tryd.prog.cellsOf 9 = 1 := by kernel_rfl
  have f0 : DataW.trod enc Tryd.prog w base spare held m 9 (([u0, u1, u2, u3, u4].drop 0).take (Tryd.prog.cellsOf 9)) = some y0 := hf 0 _ rfl
  rw [c9] at f0
  have f1 : DataW.trod enc Tryd.prog w base spare held m 3 (([u0, u1, u2, u3, u4].drop 1).take (Tryd.prog.cellsOf 3)) = some y1 := hf 1 _ rfl
  have f2 : DataW.trod enc Tryd.prog w base spare held m 3 (([u0, u1, u2, u3, u4].drop 2).take (Tryd.prog.cellsOf 3)) = some y2 := hf 2 _ rfl
  have f3 : DataW.trod enc Tryd.prog w base spare held m 3 (([u0, u1, u2, u3, u4].drop 3).take (Tryd.prog.cellsOf 3)) = some y3 := hf 3 _ rfl
  have f4 : DataW.trod enc Tryd.prog w base spare held m 3 (([u0, u1, u2, u3, u4].drop 4).take (Tryd.prog.cellsOf 3)) = some y4 := hf 4 _ rfl
  rw [c3] at f1 f2 f3 f4
  obtain ⟨p, hp, _, r0⟩ := (Rd.str Tryd.underlying9).opens f0 hwt (part Tryd.underlying24 0 _ y0 rfl rfl)
  obtain ⟨a, _, _, r1⟩ := (Rd.int (k := .i64) Tryd.underlying3).opens f1 hwt (part Tryd.underlying24 1 _ y1 rfl rfl)
  obtain ⟨b, _, _, r2⟩ := (Rd.int (k := .i64) Tryd.underlying3).opens f2 hwt (part Tryd.underlying24 2 _ y2 rfl rfl)
  obtain ⟨c, _, _, r3⟩ := (Rd.int (k := .i64) Tryd.underlying3).opens f3 hwt (part Tryd.underlying24 3 _ y3 rfl rfl)
  obtain ⟨e, _, _, r4⟩ := (Rd.int (k := .i64) Tryd.underlying3).opens f4 hwt (part Tryd.underlying24 4 _ y4 rfl rfl)
  refine ⟨⟨p, a, b, c, e⟩, hp.2, rfl, fun g o hg => ?_⟩
  simp only [Vr.toT, T.cells, RepL, and_true]
  have s0 := r0 g o (fun i u hu => by match i, hu with | 0, hu => exact hg 0 u hu)
  have s1 := r1 g (o + 1) (fun i u hu => by match i, hu with | 0, hu => exact hg 1 u hu)
  have s2 := r2 g (o + 2) (fun i u hu => by match i, hu with | 0, hu => exact hg 2 u hu)
  have s3 := r3 g (o + 3) (fun i u hu => by match i, hu with | 0, hu => exact hg 3 u hu)
  have s4 := r4 g (o + 4) (fun i u hu => by match i, hu with | 0, hu => exact hg 4 u hu)
  simp only [Rd.int, Rd.str, T.cells, RepL, and_true] at s0 s1 s2 s3 s4
  exact ⟨s0, s1, s2, s3, s4⟩
set_option maxRecDepth 100000 in
def rdVr : Rd Tryd.prog 24 5 Vr where
  toT := Vr.toT
  ok mul B x := x.p.size ≤ B
  len x := rfl
  opens h mul wt B hwt hB := vr_open hwt _ _ _ h hB
  one hd hv mul wt B hwt hB := by
    obtain ⟨fuel, hf⟩ := hd
    obtain ⟨vs, rfl, hs⟩ := okWide_struct Tryd.underlying24 hv
    obtain ⟨x, h1, h2, h3⟩ := vr_open hwt _ _ _ hf hB
    refine ⟨x, h1, ?_⟩
    have hc := h3 (fun j => vs[j]?) 0 (fun i u hu => by simpa [Value.cells] using hu)
    simp only [Vr.toT] at hc ⊢
    simp only [RepT]
    simp only [T.cells] at hc
    refine ⟨vs, rfl, ?_, hc⟩
    have hc5 : Tryd.prog.cellsOf 24 = 5 := by kernel_rfl
    rw [hs, hc5]; rfl
theorem Vr.noG (x : Vr) : x.toT.noG = true := rfl
end Go.AL
