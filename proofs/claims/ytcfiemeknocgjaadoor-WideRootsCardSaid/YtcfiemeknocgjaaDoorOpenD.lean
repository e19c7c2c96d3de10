/- How the arguments of the laws are opened at the Door seat: a number of 256 bits; the table of powers of ten. Conditions: none. -/
import Derived.Test.YtcfiemeknocgjaaDoorRows
import Derived.Test.YtcfiemeknocgjaaDoorMul2
import Derived.Test.YtcfiemeknocgjaaDoorFmt1
import Derived.ProofKit
import Derived.OpenShut
import Derived.ShutString
import Derived.ChangeOld
import Derived.Below
import Derived.Lib.SmallJoins
import Derived.Lib.LaidTab
import Derived.Laws.IdiomArrays
import Derived.LaidMore
import Derived.Stop.Joined
namespace Go.Proofs.YtcfiemeknocgjaaDoor
open Go.ChangeShapes Go.WideShapes Go.ChangeAt Go.RowKit Go.Joins

/-- the listed variables -/
def laids : List (String × DataW Unit) := [("math/bits.deBruijn32tab", Rows.laid_math_bits_deBruijn32tab), ("math/bits.deBruijn64tab", Rows.laid_math_bits_deBruijn64tab), ("internal/strconv.uint64pow10", Rows.laid_internal_strconv_uint64pow10)]
/-- the powers of ten -/
def pows : List Int := [1, 10, 100, 1000, 10000, 100000, 1000000, 10000000, 100000000, 1000000000, 10000000000, 100000000000, 1000000000000, 10000000000000, 100000000000000, 1000000000000000, 10000000000000000, 100000000000000000, 1000000000000000000, 10000000000000000000]
theorem pows_at : ∀ i, i < 20 → pows[i]? = some (10 ^ i) := by decide +kernel
theorem gPow : Tryd.prog.globalNamed "internal/strconv.uint64pow10" = some 0 := by kernel_rfl
theorem tPow : (Tryd.prog.globals[0]?).map (·.type) = some 85 := by kernel_rfl
theorem door_met (os : Os) (args : Array Value) : laidMetH Tryd.prog laids ((World.doorLaid Tryd.prog 24 os).forCall (fun _ _ => 0) ⟨#[], args, []⟩).memory :=
  laidMetH_of_parts3 (fuel := 8) (laidMet_of_run' 8 (by kernel_rfl) (by kernel_rfl)) (by kernel_rfl) (by kernel_rfl)
theorem tab_of_laid {W : World} (h : laidMetH Tryd.prog laids W) : Tab W := by
  rw [MakeChecks.laidMetH_plain _ _ _ (by kernel_rfl)] at h
  obtain ⟨ps, ⟨g0, t0, cs0, f0, p0, q0, hg0, ht0, hv0, hd0, ⟨g1, t1, cs1, f1, p1, q1, hg1, ht1, hv1, hd1, ⟨g2, t2, cs2, f2, p2, q2, hg2, ht2, hv2, hd2, _, _⟩, _⟩, _⟩, _, _⟩ := h
  obtain rfl := Option.some.inj (gPow.symm.trans hg2)
  obtain rfl := Option.some.inj (tPow.symm.trans ht2)
  have hc : cs2.toList = pows.map fun z => Value.int .u64 z :=
    Lib.cells_of_tab (P := Tryd.prog) Tryd.underlying85 Tryd.underlying22 (by kernel_rfl) (by kernel_rfl) (show DataW.trod _ Tryd.prog W 0 _ false f2 85 cs2.toList = some (Lib.tabData .u64 pows, p2) from hd2)
  have hall : ∀ i, i < 20 → W.cell? ⟨0, i, none⟩ = some (.int .u64 (10 ^ i)) := fun i hi => by
    have := World.var?_cell hg2 hv2 i
    rw [this, ← Array.getElem?_toList, hc, List.getElem?_map, pows_at i hi]; rfl
  refine ⟨?_, hall⟩
  have h0 := hall 0 (by decide)
  unfold World.cell? at h0
  rcases Nat.eq_zero_or_pos W.heap.size with hz | hz
  · rw [Array.getElem?_eq_none (by simp [hz])] at h0; cases h0
  · exact hz

theorem own : ownKnob Tryd.prog.godebug = none := by kernel_rfl
theorem laidOut : laidOutB Tryd.prog = true := by kernel_rfl

/-- any four words are those of a number of 256 bits -/
theorem words_in {a b c d : Int} (ha : Wd a) (hb : Wd b) (hc : Wd c) (hd : Wd d) : ∃ x, InI x ∧ wd0 x = a ∧ wd1 x = b ∧ wd2 x = c ∧ wd3 x = d :=
  ⟨sg (un4 a b c d), sg_bd _, by rw [wd0_sg]; exact wd0_un4 ha, by rw [wd1_sg]; exact wd1_un4 ha hb, by rw [wd2_sg]; exact wd2_un4 ha hb hc, by rw [wd3_sg]; exact wd3_un4 ha hb hc hd⟩

theorem in64_wf {x : Int} (h : (Lit.int .i64 x).wf = true) : In64 x := by
  simp [Lit.wf, IntKind.min, IntKind.max, IntKind.signed, IntKind.bits] at h
  unfold In64; omega

section
variable {H : Type} {enc : TypeId × Value → H} {w : World} {base : Nat} {spare : Nat → Bool} {held : Bool}

theorem wd_of {a : Int} (h : (Lit.int .u64 a).wf = true) : Wd a := by
  simp [Lit.wf, IntKind.min, IntKind.max, IntKind.signed, IntKind.bits] at h
  exact ⟨by omega, by omega⟩

theorem open_four {fuel : Nat} {c0 c1 c2 c3 : Value} {x : DataW H × List MemPlace} (h : DataW.trod enc Tryd.prog w base spare held fuel 24 [c0, c1, c2, c3] = some x) :
    ∃ n, InI n ∧ c0 = .int .u64 (wd0 n) ∧ c1 = .int .u64 (wd1 n) ∧ c2 = .int .u64 (wd2 n) ∧ c3 = .int .u64 (wd3 n) := by
  obtain ⟨y0, y1, y2, y3, m, _, h0, h1, h2, h3⟩ := trod_array4 Tryd.underlying24 (by kernel_rfl) h
  obtain ⟨a0, e0, _, g0⟩ := DataW.trod_int Tryd.underlying22 h0
  obtain ⟨a1, e1, _, g1⟩ := DataW.trod_int Tryd.underlying22 h1
  obtain ⟨a2, e2, _, g2⟩ := DataW.trod_int Tryd.underlying22 h2
  obtain ⟨a3, e3, _, g3⟩ := DataW.trod_int Tryd.underlying22 h3
  obtain ⟨n, hn, w0, w1, w2, w3⟩ := words_in (wd_of g0) (wd_of g1) (wd_of g2) (wd_of g3)
  simp at e0 e1 e2 e3
  exact ⟨n, hn, by rw [e0, w0], by rw [e1, w1], by rw [e2, w2], by rw [e3, w3]⟩

set_option maxRecDepth 100000 in
theorem open_wide {r : Reach} {b0 : Nat} {v : Value} {d : DataW H} {p : List MemPlace} (hv : Value.okWide Tryd.prog w r b0 24 v) (h : DataW.Trod enc Tryd.prog w base spare held 24 v d p) :
    ∃ n, InI n ∧ v = wI n := by
  simp only [Value.okWide, Tryd.underlying24] at hv
  obtain ⟨cs, rfl, hsz, _⟩ := hv
  have hC : Tryd.prog.cellsOf 24 = 4 := by kernel_rfl
  obtain ⟨l⟩ := cs
  match l, hsz.trans hC with
  | [c0, c1, c2, c3], _ =>
    obtain ⟨fuel, hf⟩ := h
    obtain ⟨n, hn, rfl, rfl, rfl, rfl⟩ := open_four hf
    exact ⟨n, hn, rfl⟩

end
end Go.Proofs.YtcfiemeknocgjaaDoor
