/- Contracts of package wide, in numbers: Div, Add, Sub, Neg, Small. Conditions: the numbers are numbers of 256 bits. -/
import Derived.Test.YtcfiemeknocgjaaDoorWide6
namespace Go.Proofs.YtcfiemeknocgjaaDoor
open Go.RowKit

theorem sgB_of {s : Int} (b : Bool) (h0 : 0 ≤ s) (h1 : s ≤ b255) : sgB s b = (b || decide (s < b255)) := by
  unfold sgB
  cases b
  · rw [cond_false, Bool.false_or, Bool.eq_iff_iff, decide_eq_true_iff, Bool.not_eq_true', ← Bool.not_eq_true, ng_iff]
    unfold b255 b256 at *; omega
  · rw [cond_true, Bool.true_or, eq4_0, ng_in (by unfold InI b255 at *; omega), eq0_iff (by unfold b255 at *; omega)]
    rw [Bool.or_eq_true, decide_eq_true_iff, decide_eq_true_iff]; omega

/-- does Div answer? -/
def dvOk (x y : Int) : Bool := decide (y ≠ 0) && decide (fq x y < b255)

theorem Div_any (x y : Int) (w : World) (ix : InI x) (iy : InI y) :
    Calls Tryd.prog 9 #[wI x, wI y] w fun e w' => e = .returned (bif dvOk x y then .tuple #[wI (fq x y), wI (fr x y), .bool true] else .tuple #[wI 0, wI 0, .bool false]) ∧ Below w.heap.size w w' := by
  by_cases hy : y = 0
  · subst hy
    have e : dvOk x 0 = false := by simp [dvOk]
    rw [e]
    exact Div_0 x 0 w rfl
  · have bx := sz_bd ix
    have by' := sz_bd iy
    have sy : 0 < sz y := by rw [sz_in iy]; omega
    obtain ⟨s1, s2, n0, n1, m0, m1⟩ := dv_spec ix iy hy
    have hz : eq4 (wd0 (sz x % sz y)) (wd1 (sz x % sz y)) (wd2 (sz x % sz y)) (wd3 (sz x % sz y)) 0 0 0 0 = zmI x y := eq4_0 _
    have hne : eq4 (wd0 y) (wd1 y) (wd2 y) (wd3 y) 0 0 0 0 = false := by
      rw [eq4_0, decide_eq_false_iff_not]
      obtain ⟨h1, h2⟩ := iy
      unfold b255 b256 at *; omega
    have hu : (ng x == ng y) = !(ng x != ng y) := by cases ng x <;> cases ng y <;> rfl
    refine (Div_go x y w (ng x != ng y) (zmI x y) _ hne (by unfold b255 b256 at *; omega) (by unfold b255 b256 at *; omega) hu hz rfl).mono fun e w' ⟨he, hw⟩ => ⟨?_, hw⟩
    rw [he]
    have g1 := sgB_of (ng x != ng y) n0 n1
    have g2 : sgB (dvM x y (ng x != ng y) (zmI x y)) (ng y) = true := by
      rw [sgB_of (ng y) m0 (by omega), Bool.or_eq_true, decide_eq_true_iff]
      rcases Int.lt_or_le y 0 with h | h
      · exact .inl (by rw [ng_in iy]; simpa using h)
      · right
        have : sz y = y := sz_pos iy h
        obtain ⟨h1, h2⟩ := iy
        omega
    have g3 : dvOk x y = sgB (dvN x y (ng x != ng y) (zmI x y)) (ng x != ng y) := by
      rw [g1]
      unfold dvOk
      have : decide (y ≠ 0) = true := by simpa using hy
      rw [this, Bool.true_and, ← s1]
      have n0' : 0 ≤ dvN x y (ng x != ng y) (zmI x y) := n0
      cases hu' : (ng x != ng y)
      · rfl
      · rw [hu'] at n0'
        simp only [cond_true, Bool.true_or, decide_eq_true_iff]; unfold b255 at *; omega
    rw [g2, ← g3]
    unfold sgV
    rw [s1, cond_true, s2]

/-- does a number fit? -/
def okI (x : Int) : Bool := decide (InI x)
theorem addB_ok {x y : Int} (ix : InI x) (iy : InI y) : addB x y = okI (x + y) := by
  unfold addB okI
  rw [ng_in ix, ng_in iy]
  have hs := ng_iff (x + y)
  obtain ⟨h1, h2⟩ := ix
  obtain ⟨h3, h4⟩ := iy
  rw [Bool.eq_iff_iff, decide_eq_true_iff]
  unfold InI
  cases hn : ng (x + y)
  · have hs' : ¬ b255 ≤ (x + y) % b256 := fun h => by rw [hs.2 h] at hn; cases hn
    by_cases a : x < 0 <;> by_cases b : y < 0 <;> simp [a, b] <;> unfold b255 b256 at * <;> omega
  · have hs' := hs.1 hn
    by_cases a : x < 0 <;> by_cases b : y < 0 <;> simp [a, b] <;> unfold b255 b256 at * <;> omega
theorem subB_ok {x y : Int} (ix : InI x) (iy : InI y) : subB x y = okI (x - y) := by
  unfold subB okI
  rw [ng_in ix, ng_in iy]
  have hs := ng_iff (x - y)
  obtain ⟨h1, h2⟩ := ix
  obtain ⟨h3, h4⟩ := iy
  rw [Bool.eq_iff_iff, decide_eq_true_iff]
  unfold InI
  cases hn : ng (x - y)
  · have hs' : ¬ b255 ≤ (x - y) % b256 := fun h => by rw [hs.2 h] at hn; cases hn
    by_cases a : x < 0 <;> by_cases b : y < 0 <;> simp [a, b] <;> unfold b255 b256 at * <;> omega
  · have hs' := hs.1 hn
    by_cases a : x < 0 <;> by_cases b : y < 0 <;> simp [a, b] <;> unfold b255 b256 at * <;> omega

theorem Add_ok (x y : Int) (w : World) (ix : InI x) (iy : InI y) : Calls Tryd.prog 53 #[wI x, wI y] w fun e w' => e = .returned (.tuple #[wI (bif okI (x + y) then x + y else 0), .bool (okI (x + y))]) ∧ Below w.heap.size w w' := by
  rw [← addB_ok ix iy]; exact Add_any x y w
theorem Sub_ok (x y : Int) (w : World) (ix : InI x) (iy : InI y) : Calls Tryd.prog 52 #[wI x, wI y] w fun e w' => e = .returned (.tuple #[wI (bif okI (x - y) then x - y else 0), .bool (okI (x - y))]) ∧ Below w.heap.size w w' := by
  rw [← subB_ok ix iy]; exact Sub_any x y w
end Go.Proofs.YtcfiemeknocgjaaDoor
