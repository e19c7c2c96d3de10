/- How the arguments of the laws are opened: a segment, a spot. Conditions: none. -/
import Derived.Test.YtlcbomjdbdgbmaaBs8
namespace Go.Proofs.Ytlcbomjdbdgbmaa
open Go.ChangeShapes Go.WideShapes Go.ChangeAt Go.RowKit Go.Joins
section
variable {H : Type} {enc : TypeId × Value → H} {w : World} {base : Nat} {spare : Nat → Bool} {held : Bool}
set_option maxRecDepth 100000 in
theorem open_seg {r : Reach} {b0 : Nat} {v : Value} {d : DataW H} {p : List MemPlace} (hv : Value.okWide Try.prog w r b0 50 v) (h : DataW.Trod enc Try.prog w base spare held 50 v d p) :
    ∃ a b c d, In64 a ∧ In64 b ∧ In64 c ∧ In64 d ∧ v = .agg #[.int .i64 a, .int .i64 b, .int .i64 c, .int .i64 d] := by
  obtain ⟨cs, rfl, hsz⟩ := okWide_struct Try.underlying50 hv
  have hC : Try.prog.cellsOf 50 = 4 := by kernel_rfl
  obtain ⟨l⟩ := cs
  match l, hsz.trans hC with
  | [c0, c1, c2, c3], _ =>
    obtain ⟨fuel, hf⟩ := h
    obtain ⟨xs, k, _, hx, _, hlen, hg⟩ := DataW.trod_struct Try.underlying50 hf
    have hC2 : Try.prog.cellsOf 24 = 2 := by kernel_rfl
    match xs, hlen with
    | [y0, y1], _ =>
      have g0 := hg 0 _ rfl
      have g1 := hg 1 _ rfl
      simp [Value.cells, hC2] at g0 g1
      obtain ⟨a, b, ia, ib, rfl, rfl⟩ := open_pt2 g0
      obtain ⟨c, d, ic, id, rfl, rfl⟩ := open_pt2 g1
      exact ⟨a, b, c, d, ia, ib, ic, id, rfl⟩
set_option maxRecDepth 100000 in
theorem open_spot {r : Reach} {b0 : Nat} {v : Value} {d : DataW H} {p : List MemPlace} (hv : Value.okWide Try.prog w r b0 67 v) (h : DataW.Trod enc Try.prog w base spare held 67 v d p) :
    ∃ x y z, InI x ∧ InI y ∧ InI z ∧ v = .agg #[.int .u64 (wd0 x), .int .u64 (wd1 x), .int .u64 (wd2 x), .int .u64 (wd3 x), .int .u64 (wd0 y), .int .u64 (wd1 y), .int .u64 (wd2 y), .int .u64 (wd3 y), .int .u64 (wd0 z), .int .u64 (wd1 z), .int .u64 (wd2 z), .int .u64 (wd3 z)] := by
  obtain ⟨cs, rfl, hsz⟩ := okWide_struct Try.underlying67 hv
  have hC : Try.prog.cellsOf 67 = 12 := by kernel_rfl
  obtain ⟨l⟩ := cs
  match l, hsz.trans hC with
  | [c0, c1, c2, c3, c4, c5, c6, c7, c8, c9, c10, c11], _ =>
    obtain ⟨fuel, hf⟩ := h
    obtain ⟨xs, k, _, hx, _, hlen, hg⟩ := DataW.trod_struct Try.underlying67 hf
    have hC4 : Try.prog.cellsOf 35 = 4 := by kernel_rfl
    match xs, hlen with
    | [y0, y1, y2], _ =>
      have g0 := hg 0 _ rfl
      have g1 := hg 1 _ rfl
      have g2 := hg 2 _ rfl
      simp [Value.cells, hC4] at g0 g1 g2
      obtain ⟨x, hx, rfl, rfl, rfl, rfl⟩ := open_four g0
      obtain ⟨y, hy, rfl, rfl, rfl, rfl⟩ := open_four g1
      obtain ⟨z, hz, rfl, rfl, rfl, rfl⟩ := open_four g2
      exact ⟨x, y, z, hx, hy, hz, rfl⟩
end
end Go.Proofs.Ytlcbomjdbdgbmaa
