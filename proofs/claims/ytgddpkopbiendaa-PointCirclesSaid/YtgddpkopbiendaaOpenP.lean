/- How the arguments of the laws are opened: a point, four points. Conditions: none. -/
import Derived.Test.YtgddpkopbiendaaOpen
import Derived.Test.YtgddpkopbiendaaPnt1
namespace Go.Proofs.Ytgddpkopbiendaa
open Go.ChangeShapes Go.WideShapes Go.ChangeAt Go.RowKit Go.Joins
section
variable {H : Type} {enc : TypeId × Value → H} {w : World} {base : Nat} {spare : Nat → Bool} {held : Bool}
set_option maxRecDepth 100000 in
theorem open_point {r : Reach} {b0 : Nat} {v : Value} {d : DataW H} {p : List MemPlace} (hv : Value.okWide Try.prog w r b0 57 v) (h : DataW.Trod enc Try.prog w base spare held 57 v d p) :
    ∃ x y, In64 x ∧ In64 y ∧ v = pI x y := by
  obtain ⟨v0, v1, y0, y1, n, rfl, _, _, t0, t1⟩ := open_agg2 Try.underlying57 (by kernel_rfl) (by kernel_rfl) hv h
  obtain ⟨a0, e0, _, g0⟩ := DataW.trod_int Try.underlying3 t0
  obtain ⟨a1, e1, _, g1⟩ := DataW.trod_int Try.underlying3 t1
  simp at e0 e1
  exact ⟨a0, a1, in64_wf g0, in64_wf g1, by rw [e0, e1]⟩
end
/-- the value of four points -/
abbrev fI (a b c d e f g h : Int) : Value := .agg #[.int .i64 a, .int .i64 b, .int .i64 c, .int .i64 d, .int .i64 e, .int .i64 f, .int .i64 g, .int .i64 h]
section
variable {H : Type} {enc : TypeId × Value → H} {w : World} {base : Nat} {spare : Nat → Bool} {held : Bool}
theorem open_pt2 {fuel : Nat} {c0 c1 : Value} {x : DataW H × List MemPlace} (h : DataW.trod enc Try.prog w base spare held fuel 57 [c0, c1] = some x) :
    ∃ a b, In64 a ∧ In64 b ∧ c0 = .int .i64 a ∧ c1 = .int .i64 b := by
  obtain ⟨xs, k, _, hx, _, hlen, hg⟩ := DataW.trod_struct Try.underlying57 h
  have hC1 : Try.prog.cellsOf 3 = 1 := by kernel_rfl
  match xs, hlen with
  | [y0, y1], _ =>
    have g0 := hg 0 _ rfl
    have g1 := hg 1 _ rfl
    simp [hC1] at g0 g1
    obtain ⟨a0, e0, _, k0⟩ := DataW.trod_int Try.underlying3 g0
    obtain ⟨a1, e1, _, k1⟩ := DataW.trod_int Try.underlying3 g1
    simp at e0 e1
    exact ⟨a0, a1, in64_wf k0, in64_wf k1, e0, e1⟩
set_option maxRecDepth 100000 in
theorem open_fourp {r : Reach} {b0 : Nat} {v : Value} {d : DataW H} {p : List MemPlace} (hv : Value.okWide Try.prog w r b0 69 v) (h : DataW.Trod enc Try.prog w base spare held 69 v d p) :
    ∃ a b c d e f g h, (In64 a ∧ In64 b ∧ In64 c ∧ In64 d ∧ In64 e ∧ In64 f ∧ In64 g ∧ In64 h) ∧ v = fI a b c d e f g h := by
  obtain ⟨cs, rfl, hsz⟩ := okWide_struct Try.underlying69 hv
  have hC : Try.prog.cellsOf 69 = 8 := by kernel_rfl
  obtain ⟨l⟩ := cs
  match l, hsz.trans hC with
  | [c0, c1, c2, c3, c4, c5, c6, c7], _ =>
    obtain ⟨fuel, hf⟩ := h
    obtain ⟨xs, k, _, hx, _, hlen, hg⟩ := DataW.trod_struct Try.underlying69 hf
    have hC2 : Try.prog.cellsOf 57 = 2 := by kernel_rfl
    match xs, hlen with
    | [y0, y1, y2, y3], _ =>
      have g0 := hg 0 _ rfl
      have g1 := hg 1 _ rfl
      have g2 := hg 2 _ rfl
      have g3 := hg 3 _ rfl
      simp [Value.cells, hC2] at g0 g1 g2 g3
      obtain ⟨a, b, ia, ib, rfl, rfl⟩ := open_pt2 g0
      obtain ⟨c, d, ic, id, rfl, rfl⟩ := open_pt2 g1
      obtain ⟨e, f, ie, jf, rfl, rfl⟩ := open_pt2 g2
      obtain ⟨g, h, ig, ih, rfl, rfl⟩ := open_pt2 g3
      exact ⟨a, b, c, d, e, f, g, h, ⟨ia, ib, ic, id, ie, jf, ig, ih⟩, rfl⟩
end
end Go.Proofs.Ytgddpkopbiendaa
