/- How the arguments of the laws are opened: a point. Conditions: none. -/
import Derived.Test.YtgddpkopbiendaaOpen
import Derived.Test.YtgddpkopbiendaaPnt1
namespace Go.Proofs.Ytgddpkopbiendaa
open Go.ChangeShapes Go.WideShapes Go.ChangeAt Go.RowKit Go.Joins
section
variable {H : Type} {enc : TypeId × Value → H} {w : World} {base : Nat} {spare : Nat → Bool} {held : Bool}
set_option maxRecDepth 100000 in
theorem open_point {r : Reach} {b0 : Nat} {v : Value} {d : DataW H} {p : List MemPlace} (hv : Value.okWide Try.prog w r b0 57 v) (h : DataW.Trod enc Try.prog w base spare held 57 v d p) :
    ∃ x y, In64 x ∧ In64 y ∧ v = pI x y := by
  obtain ⟨v0, v1, y0, y1, n, rfl, _, _, t0, t1⟩ := open_agg2 Try.underlying57 (by kernel_rfl) (by kernel_rfl) hv h
  obtain ⟨a0, e0, _, g0⟩ := DataW.trod_int Try.underlying3 t0
  obtain ⟨a1, e1, _, g1⟩ := DataW.trod_int Try.underlying3 t1
  simp at e0 e1
  exact ⟨a0, a1, in64_wf g0, in64_wf g1, by rw [e0, e1]⟩
end
end Go.Proofs.Ytgddpkopbiendaa
