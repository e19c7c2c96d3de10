/- Plain arithmetic of the division with signs. Conditions: none. -/
import Derived.Test.YtcfiemeknocgjaaDoorNum2
namespace Go.Proofs.YtcfiemeknocgjaaDoor

/-- the quotient, rounded down, and the rest -/
def fq (x y : Int) : Int := if 0 ≤ y then x / y else (-x) / (-y)
def fr (x y : Int) : Int := if 0 ≤ y then x % y else -((-x) % (-y))

theorem fq_fr (x y : Int) : fq x y * y + fr x y = x := by
  unfold fq fr
  split
  · have := Int.emod_add_mul_ediv x y; rw [Int.mul_comm y] at this; omega
  · have := Int.emod_add_mul_ediv (-x) (-y)
    have e : -y * (-x / -y) = -(-x / -y * y) := by rw [Int.neg_mul, Int.mul_comm]
    rw [e] at this; omega
theorem fr_pos {x y : Int} (h : 0 < y) : 0 ≤ fr x y ∧ fr x y < y := by
  unfold fr; rw [if_pos (by omega)]; exact ⟨Int.emod_nonneg _ (by omega), Int.emod_lt_of_pos _ h⟩
theorem fr_neg {x y : Int} (h : y < 0) : fr x y ≤ 0 ∧ y < fr x y := by
  unfold fr; rw [if_neg (by omega)]
  have h1 := Int.emod_nonneg (-x) (show -y ≠ 0 by omega)
  have h2 := Int.emod_lt_of_pos (-x) (show 0 < -y by omega)
  omega

/-- of a number below 0: the quotient, rounded down, by the sizes -/
theorem neg_div {x y : Int} (hy : 0 < y) : ((-x) / y = -(x / y) ∧ (-x) % y = 0 ∧ x % y = 0) ∨ ((-x) / y = -(x / y + 1) ∧ (-x) % y = y - x % y ∧ x % y ≠ 0) := by
  have h1 := Int.emod_add_mul_ediv x y
  have h2 := Int.emod_nonneg x (show y ≠ 0 by omega)
  have h3 := Int.emod_lt_of_pos x hy
  by_cases h : x % y = 0
  · refine .inl ?_
    have e : -x = y * (-(x / y)) + 0 := by rw [Int.mul_neg]; omega
    obtain ⟨a, b⟩ := div_unique e (by omega) hy
    exact ⟨a, b, h⟩
  · refine .inr ?_
    have e : -x = y * (-(x / y + 1)) + (y - x % y) := by rw [Int.mul_neg, Int.mul_add, Int.mul_one]; omega
    obtain ⟨a, b⟩ := div_unique e (by omega) (by omega)
    exact ⟨a, b, h⟩

def dvN (x y : Int) (u zm : Bool) : Int := bif u && !zm then sz x / sz y + 1 else sz x / sz y
def dvM (x y : Int) (u zm : Bool) : Int := bif u && !zm then sz y - sz x % sz y else sz x % sz y

theorem sz_pos {x : Int} (h : InI x) (hx : 0 ≤ x) : sz x = x := by rw [sz_in h]; omega
theorem sz_neg {x : Int} (h : InI x) (hx : x < 0) : sz x = -x := by rw [sz_in h]; omega
theorem sz_bd {x : Int} (h : InI x) : 0 ≤ sz x ∧ sz x ≤ b255 := by
  rw [sz_in h]; obtain ⟨h1, h2⟩ := h; unfold b255 at *; omega

/-- what signed says of a size that is not greater than 2^255 -/
def sgB' (s : Int) (b : Bool) : Bool := b || decide (s < b255)
theorem eq0_iff {x : Int} (h : -b255 ≤ x ∧ x ≤ b255) : decide (x % b256 = 0) = decide (x = 0) := by
  rw [Bool.eq_iff_iff, decide_eq_true_iff, decide_eq_true_iff]; unfold b255 b256 at *; omega

/-- the zero test of the rest, as the machine makes it -/
def zmI (x y : Int) : Bool := decide (sz x % sz y % b256 = 0)

theorem dv_spec {x y : Int} (ix : InI x) (iy : InI y) (hy : y ≠ 0) :
    let u := (ng x != ng y)
    let zm := zmI x y
    (bif u then -(dvN x y u zm) else dvN x y u zm) = fq x y ∧ (bif ng y then -(dvM x y u zm) else dvM x y u zm) = fr x y ∧ 0 ≤ dvN x y u zm ∧ dvN x y u zm ≤ b255 ∧ 0 ≤ dvM x y u zm ∧ dvM x y u zm < sz y := by
  intro u zm
  have bx := sz_bd ix
  have by' := sz_bd iy
  have ex : ng x = decide (x < 0) := ng_in ix
  have ey : ng y = decide (y < 0) := ng_in iy
  have sy : 0 < sz y := by rw [sz_in iy]; omega
  have m0 := Int.emod_nonneg (sz x) (show sz y ≠ 0 by omega)
  have m1 := Int.emod_lt_of_pos (sz x) sy
  have d0 : 0 ≤ sz x / sz y := Int.ediv_nonneg bx.1 (by omega)
  have d1 : sz x / sz y ≤ sz x := Int.ediv_le_self _ bx.1
  have hz : zm = decide (sz x % sz y = 0) := by
    show decide (sz x % sz y % b256 = 0) = _
    rw [Bool.eq_iff_iff, decide_eq_true_iff, decide_eq_true_iff]; unfold b255 b256 at *; omega
  -- the case of unlike signs, in which the sizes' quotient is raised
  have lift : sz x % sz y ≠ 0 → sz x / sz y + 1 ≤ b255 := by
    intro h
    have hy2 : 2 ≤ sz y := by
      rcases Int.lt_or_le (sz y) 2 with h' | h'
      · have : sz y = 1 := by omega
        rw [this] at h; omega
      · exact h'
    have e := Int.emod_add_mul_ediv (sz x) (sz y)
    have h3 : 2 * (sz x / sz y) ≤ sz y * (sz x / sz y) := Int.mul_le_mul_of_nonneg_right hy2 d0
    unfold b255 at *; omega
  by_cases hx : x < 0 <;> by_cases hyn : y < 0
  · have hu : u = false := by show (ng x != ng y) = false; rw [ex, ey]; simp [hx, hyn]
    rw [hu]
    unfold dvN dvM
    simp only [Bool.false_and, cond_false]
    rw [ey, sz_neg ix hx, sz_neg iy hyn] at *
    refine ⟨by unfold fq; rw [if_neg (by omega)], by simp only [hyn, decide_true, cond_true]; unfold fr; rw [if_neg (by omega)], d0, by omega, m0, m1⟩
  · have hu : u = true := by show (ng x != ng y) = true; rw [ex, ey]; simp [hx, hyn]
    have e1 := sz_neg ix hx
    have e2 := sz_pos iy (by omega)
    have nd := neg_div (x := -x) (y := y) (by omega)
    rw [Int.neg_neg] at nd
    rw [hu, hz]
    unfold dvN dvM fq fr
    rw [ey]
    simp only [e1, e2] at d0 d1 m0 m1 lift bx by' ⊢
    simp only [hyn, decide_false, cond_false, Bool.true_and, cond_true]
    rw [if_pos (by omega), if_pos (by omega)]
    by_cases h : sz x % sz y = 0
    · rw [e1, e2] at h
      simp only [h, decide_true, Bool.not_true, cond_false]
      rcases nd with ⟨n1, n2, n3⟩ | ⟨n1, n2, n3⟩
      · exact ⟨by omega, by omega, d0, by omega, by omega, by omega⟩
      · exact absurd h n3
    · rw [e1, e2] at h
      have l := lift h
      simp only [h, decide_false, Bool.not_false, cond_true]
      rcases nd with ⟨n1, n2, n3⟩ | ⟨n1, n2, n3⟩
      · exact absurd n3 h
      · exact ⟨by omega, by omega, by omega, l, by omega, by omega⟩
  · have hu : u = true := by show (ng x != ng y) = true; rw [ex, ey]; simp [hx, hyn]
    have e1 := sz_pos ix (by omega)
    have e2 := sz_neg iy hyn
    have nd := neg_div (x := x) (y := -y) (by omega)
    rw [hu, hz]
    unfold dvN dvM fq fr
    rw [ey]
    simp only [e1, e2] at d0 d1 m0 m1 lift bx by' ⊢
    simp only [hyn, decide_true, Bool.true_and, cond_true]
    rw [if_neg (by omega), if_neg (by omega)]
    by_cases h : sz x % sz y = 0
    · rw [e1, e2] at h
      simp only [h, decide_true, Bool.not_true, cond_false]
      rcases nd with ⟨n1, n2, n3⟩ | ⟨n1, n2, n3⟩
      · exact ⟨by omega, by omega, d0, by omega, by omega, by omega⟩
      · exact absurd h n3
    · rw [e1, e2] at h
      have l := lift h
      simp only [h, decide_false, Bool.not_false, cond_true]
      rcases nd with ⟨n1, n2, n3⟩ | ⟨n1, n2, n3⟩
      · exact absurd n3 h
      · exact ⟨by omega, by omega, by omega, l, by omega, by omega⟩
  · have hu : u = false := by show (ng x != ng y) = false; rw [ex, ey]; simp [hx, hyn]
    rw [hu]
    unfold dvN dvM
    simp only [Bool.false_and, cond_false]
    rw [ey, sz_pos ix (by omega), sz_pos iy (by omega)] at *
    refine ⟨by unfold fq; rw [if_pos (by omega)], by simp only [hyn, decide_false, cond_false]; unfold fr; rw [if_pos (by omega)], d0, by omega, m0, m1⟩
end Go.Proofs.YtcfiemeknocgjaaDoor
