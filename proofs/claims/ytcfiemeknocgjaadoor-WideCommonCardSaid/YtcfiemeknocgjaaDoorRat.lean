/- Plain arithmetic of fractions: what New, Floor, common, Reduced of package ratio compute. Conditions: none. -/
import Derived.Test.YtcfiemeknocgjaaDoorNum3
namespace Go.Proofs.YtcfiemeknocgjaaDoor

/-- of a divisor above 0 the quotient and the rest are Lean's own -/
theorem fq_pos {x y : Int} (hy : 0 < y) : fq x y = x / y := by unfold fq; rw [if_pos (by omega)]
theorem fr_pos' {x y : Int} (hy : 0 < y) : fr x y = x % y := by unfold fr; rw [if_pos (by omega)]
theorem ediv_in {x y : Int} (ix : InI x) (hy : 0 < y) : InI (x / y) := by
  obtain ⟨h1, h2⟩ := ix
  have e := Int.emod_add_mul_ediv x y
  have r0 := Int.emod_nonneg x (show y ≠ 0 by omega)
  have r1 := Int.emod_lt_of_pos x hy
  rcases Int.lt_or_le x 0 with hx | hx
  · have hq : x / y < 0 := Int.ediv_neg_of_neg_of_pos hx hy
    have : y * (x / y) ≤ 1 * (x / y) := by
      have := Int.mul_le_mul_of_nonpos_right (show (1 : Int) ≤ y by omega) (Int.le_of_lt hq)
      exact this
    have hlo : x ≤ x / y := by
      rcases Int.lt_or_le (x / y) x with h | h
      · have h3 : y * (x / y) ≤ y * (x - 1) := Int.mul_le_mul_of_nonneg_left (by omega) (by omega)
        have h4 : y * (x - 1) ≤ 1 * (x - 1) := Int.mul_le_mul_of_nonpos_right (by omega) (by omega)
        have h5 : y * (x - 1) = y * x - y := by rw [Int.mul_sub, Int.mul_one]
        have h6 : y * x ≤ 1 * x := Int.mul_le_mul_of_nonpos_right (by omega) (by omega)
        omega
      · exact h
    unfold InI b255 at *; omega
  · have h0 := Int.ediv_nonneg hx (Int.le_of_lt hy)
    have h3 := Int.ediv_le_self y hx
    unfold InI b255 at *; omega
theorem emod_in {x y : Int} (iy : InI y) (hy : 0 < y) : InI (x % y) := by
  have r0 := Int.emod_nonneg x (show y ≠ 0 by omega)
  have r1 := Int.emod_lt_of_pos x hy
  unfold InI b255 at *; omega

/-- does New make one? and which -/
def newOk (x y : Int) : Bool := decide (y ≠ 0) && (decide (0 < y) || (decide (x ≠ -b255) && decide (y ≠ -b255)))
def newN (x y : Int) : Int := bif decide (y < 0) then -x else x
def newD (_x y : Int) : Int := bif decide (y < 0) then -y else y

theorem gcd_next (a b : Int) : Int.gcd b (a % b) = Int.gcd a b := by
  have e := Int.emod_add_mul_ediv a b
  rw [Int.gcd_comm a b]
  conv => rhs; rw [← e]
  rw [Int.gcd_add_mul_left_right]
theorem gcd_last {a b : Int} (hb : 0 < b) (h : a % b = 0) : (Int.gcd a b : Int) = b := by
  rw [← gcd_next, h, Int.gcd_zero_right]; omega
/-- both numbers by the greatest one that divides both -/
theorem gcd_one {a b : Int} (hb : 0 < b) : Int.gcd (a / (Int.gcd a b : Int)) (b / (Int.gcd a b : Int)) = 1 ∧ 0 < b / (Int.gcd a b : Int) ∧ 0 < (Int.gcd a b : Int) ∧ (Int.gcd a b : Int) ≤ b ∧ a / (Int.gcd a b : Int) * b = b / (Int.gcd a b : Int) * a := by
  obtain ⟨g, hg⟩ : ∃ g : Int, g = (Int.gcd a b : Int) := ⟨_, rfl⟩
  have h1 : g ∣ a := hg ▸ Int.gcd_dvd_left a b
  have h2 : g ∣ b := hg ▸ Int.gcd_dvd_right a b
  have g0 : 0 < g := by
    have h : Int.gcd a b ≠ 0 := fun h => by
      rw [h] at hg
      rw [show g = 0 from hg] at h2
      have : b = 0 := Int.zero_dvd.1 h2
      omega
    omega
  obtain ⟨x, hx⟩ := h1
  obtain ⟨y, hy⟩ := h2
  have g0' : g ≠ 0 := by omega
  have e1 : a / g = x := by rw [hx]; exact Int.mul_ediv_cancel_left _ g0'
  have e2 : b / g = y := by rw [hy]; exact Int.mul_ediv_cancel_left _ g0'
  have y0 : 0 < y := by
    rcases Int.lt_or_le 0 y with h | h
    · exact h
    · have := Int.mul_nonpos_of_nonneg_of_nonpos (Int.le_of_lt g0) h; omega
  have hle : g * 1 ≤ g * y := Int.mul_le_mul_of_nonneg_left (by omega) (by omega)
  rw [← hg, e1, e2]
  refine ⟨?_, y0, g0, by omega, ?_⟩
  · have h3 : (Int.gcd x y : Int) * g ∣ (Int.gcd a b : Int) := by
      refine Int.dvd_coe_gcd ?_ ?_
      · rw [hx, Int.mul_comm g x]; exact Int.mul_dvd_mul (Int.gcd_dvd_left x y) (Int.dvd_refl g)
      · rw [hy, Int.mul_comm g y]; exact Int.mul_dvd_mul (Int.gcd_dvd_right x y) (Int.dvd_refl g)
    rw [← hg] at h3
    have h4 := Int.le_of_dvd g0 h3
    have h5 : 0 < Int.gcd x y := Int.gcd_pos_of_ne_zero_right _ (by omega)
    rcases Nat.lt_or_ge (Int.gcd x y) 2 with h6 | h6
    · omega
    · have h7 : 2 * g ≤ (Int.gcd x y : Int) * g := Int.mul_le_mul_of_nonneg_right (by omega) (by omega)
      omega
  · rw [hx, hy, Int.mul_left_comm, Int.mul_left_comm y, Int.mul_comm x y]
end Go.Proofs.YtcfiemeknocgjaaDoor
