/- How the arguments of the laws are opened: a number of 256 bits, a fraction. Conditions: none. -/
import Derived.Test.YtgddpkopbiendaaRows
import Derived.Test.YtgddpkopbiendaaRatio1
import Derived.ProofKit
import Derived.OpenShut
import Derived.ShutString
import Derived.ChangeOld
import Derived.Below
import Derived.Lib.SmallJoins
import Derived.Laws.IdiomArrays
namespace Go.Proofs.Ytgddpkopbiendaa
open Go.ChangeShapes Go.WideShapes Go.ChangeAt Go.RowKit Go.Joins

theorem own : ownKnob Try.prog.godebug = none := by kernel_rfl
theorem laidOut : laidOutB Try.prog = true := by kernel_rfl

/-- any four words are those of a number of 256 bits -/
theorem words_in {a b c d : Int} (ha : Wd a) (hb : Wd b) (hc : Wd c) (hd : Wd d) : ∃ x, InI x ∧ wd0 x = a ∧ wd1 x = b ∧ wd2 x = c ∧ wd3 x = d :=
  ⟨sg (un4 a b c d), sg_bd _, by rw [wd0_sg]; exact wd0_un4 ha, by rw [wd1_sg]; exact wd1_un4 ha hb, by rw [wd2_sg]; exact wd2_un4 ha hb hc, by rw [wd3_sg]; exact wd3_un4 ha hb hc hd⟩

theorem in64_wf {x : Int} (h : (Lit.int .i64 x).wf = true) : In64 x := by
  simp [Lit.wf, IntKind.min, IntKind.max, IntKind.signed, IntKind.bits] at h
  unfold In64; omega

section
variable {H : Type} {enc : TypeId × Value → H} {w : World} {base : Nat} {spare : Nat → Bool} {held : Bool}

theorem wd_of {a : Int} (h : (Lit.int .u64 a).wf = true) : Wd a := by
  simp [Lit.wf, IntKind.min, IntKind.max, IntKind.signed, IntKind.bits] at h
  exact ⟨by omega, by omega⟩

theorem open_four {fuel : Nat} {c0 c1 c2 c3 : Value} {x : DataW H × List MemPlace} (h : DataW.trod enc Try.prog w base spare held fuel 24 [c0, c1, c2, c3] = some x) :
    ∃ n, InI n ∧ c0 = .int .u64 (wd0 n) ∧ c1 = .int .u64 (wd1 n) ∧ c2 = .int .u64 (wd2 n) ∧ c3 = .int .u64 (wd3 n) := by
  obtain ⟨y0, y1, y2, y3, m, _, h0, h1, h2, h3⟩ := trod_array4 Try.underlying24 (by kernel_rfl) h
  obtain ⟨a0, e0, _, g0⟩ := DataW.trod_int Try.underlying22 h0
  obtain ⟨a1, e1, _, g1⟩ := DataW.trod_int Try.underlying22 h1
  obtain ⟨a2, e2, _, g2⟩ := DataW.trod_int Try.underlying22 h2
  obtain ⟨a3, e3, _, g3⟩ := DataW.trod_int Try.underlying22 h3
  obtain ⟨n, hn, w0, w1, w2, w3⟩ := words_in (wd_of g0) (wd_of g1) (wd_of g2) (wd_of g3)
  simp at e0 e1 e2 e3
  exact ⟨n, hn, by rw [e0, w0], by rw [e1, w1], by rw [e2, w2], by rw [e3, w3]⟩

set_option maxRecDepth 100000 in
theorem open_wide {r : Reach} {b0 : Nat} {v : Value} {d : DataW H} {p : List MemPlace} (hv : Value.okWide Try.prog w r b0 24 v) (h : DataW.Trod enc Try.prog w base spare held 24 v d p) :
    ∃ n, InI n ∧ v = wI n := by
  simp only [Value.okWide, Try.underlying24] at hv
  obtain ⟨cs, rfl, hsz, _⟩ := hv
  have hC : Try.prog.cellsOf 24 = 4 := by kernel_rfl
  obtain ⟨l⟩ := cs
  match l, hsz.trans hC with
  | [c0, c1, c2, c3], _ =>
    obtain ⟨fuel, hf⟩ := h
    obtain ⟨n, hn, rfl, rfl, rfl, rfl⟩ := open_four hf
    exact ⟨n, hn, rfl⟩

set_option maxRecDepth 100000 in
theorem open_rat {r : Reach} {b0 : Nat} {v : Value} {d : DataW H} {p : List MemPlace} (hv : Value.okWide Try.prog w r b0 26 v) (h : DataW.Trod enc Try.prog w base spare held 26 v d p) :
    ∃ n m, InI n ∧ InI m ∧ v = rI n m := by
  obtain ⟨cs, rfl, hsz⟩ := okWide_struct Try.underlying26 hv
  have hC : Try.prog.cellsOf 26 = 8 := by kernel_rfl
  obtain ⟨l⟩ := cs
  match l, hsz.trans hC with
  | [c0, c1, c2, c3, c4, c5, c6, c7], _ =>
    obtain ⟨fuel, hf⟩ := h
    obtain ⟨xs, k, _, hx, _, hlen, hg⟩ := DataW.trod_struct Try.underlying26 hf
    have hC4 : Try.prog.cellsOf 24 = 4 := by kernel_rfl
    match xs, hlen with
    | [y0, y1], _ =>
      have g0 := hg 0 _ rfl
      have g1 := hg 1 _ rfl
      simp [Value.cells, hC4] at g0 g1
      obtain ⟨n, hn, rfl, rfl, rfl, rfl⟩ := open_four g0
      obtain ⟨m, hm, rfl, rfl, rfl, rfl⟩ := open_four g1
      exact ⟨n, m, hn, hm, rfl⟩
end
end Go.Proofs.Ytgddpkopbiendaa
