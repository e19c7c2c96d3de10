/- Plain arithmetic of the long division, bit by bit. Conditions: none. -/
import Derived.Test.YtcfiemeknocgjaaDoorNum
import Derived.Laws.BitsAllLaws
namespace Go.Proofs.YtcfiemeknocgjaaDoor

theorem wd_lt_4 {i : Nat} (h : i < 4) (x : Int) : wd i x = x / 2 ^ (64 * i) % 2 ^ 64 := by
  match i, h with
  | 0, _ => simp [wd, wd0, b64]
  | 1, _ => rfl
  | 2, _ => rfl
  | 3, _ => rfl
theorem wd_Wd {i : Nat} (h : i < 4) (x : Int) : Wd (wd i x) := by
  match i, h with
  | 0, _ => exact wd0_Wd x
  | 1, _ => exact wd1_Wd x
  | 2, _ => exact wd2_Wd x
  | 3, _ => exact wd3_Wd x

theorem ediv_pow (x : Int) (m n : Nat) : x / 2 ^ m / 2 ^ n = x / 2 ^ (m + n) := by
  rw [Int.ediv_ediv_of_nonneg (Int.le_of_lt (Int.pow_pos (by decide))), Int.pow_add]

theorem mod_div_pow {x : Int} {m n : Nat} (h : n < m) : x % 2 ^ m / 2 ^ n % 2 = x / 2 ^ n % 2 := by
  obtain ⟨k, rfl⟩ : ∃ k, m = n + 1 + k := ⟨m - n - 1, by omega⟩
  have e : x = x % 2 ^ (n + 1 + k) + 2 ^ n * (2 * (2 ^ k * (x / 2 ^ (n + 1 + k)))) := by
    have := Int.emod_add_mul_ediv x (2 ^ (n + 1 + k))
    have e2 : (2 : Int) ^ (n + 1 + k) = 2 ^ n * 2 * 2 ^ k := by rw [Int.pow_add, Int.pow_add]; rfl
    conv => lhs; rw [← this]
    rw [Int.add_right_inj, e2]
    simp only [Int.mul_assoc]
  have hp : (2 : Int) ^ n ≠ 0 := Int.ne_of_gt (Int.pow_pos (by decide))
  conv => rhs; rw [e]
  rw [Int.add_mul_ediv_left _ _ hp, Int.add_mul_emod_self_left]

/-- the bit number j of a number, as the machine takes it out of its words -/
theorem bit_eq (a : Int) {j : Nat} (hj : j < 256) : bits .and .u64 (wd (j / 64) a / 2 ^ (j % 64)) 1 = a / 2 ^ j % 2 := by
  have h4 : j / 64 < 4 := by omega
  obtain ⟨w1, w2⟩ := wd_Wd h4 a
  have hp : (0 : Int) < 2 ^ (j % 64) := Int.pow_pos (by decide)
  have n1 : 0 ≤ wd (j / 64) a / 2 ^ (j % 64) := Int.ediv_nonneg w1 (Int.le_of_lt hp)
  have n2 : wd (j / 64) a / 2 ^ (j % 64) < 18446744073709551616 := Int.lt_of_le_of_lt (Int.ediv_le_self _ w1) w2
  rw [u64_and _ _ n1 n2 (by decide) (by decide)]
  have e1 : (1 : Int).toNat = 1 := rfl
  rw [e1, nat_mask1]
  have e2 : ((wd (j / 64) a / 2 ^ (j % 64)).toNat % 2 : Nat) = (wd (j / 64) a / 2 ^ (j % 64)) % 2 := by omega
  rw [e2, wd_lt_4 h4, mod_div_pow (by omega), ediv_pow]
  congr 3
  omega

theorem or_one (q : Int) : bits .or .u64 (wd0 (q + q)) 1 = wd0 (q + q + 1) := by
  obtain ⟨w1, w2⟩ := wd0_Wd (q + q)
  rw [u64_or _ _ w1 w2 (by decide) (by decide)]
  have e1 : (1 : Int).toNat = 1 := rfl
  have e : (wd0 (q + q)).toNat % 2 ^ 1 = 0 := by unfold wd0 b64; omega
  rw [e1, nat_join 1 _ _ e (by decide)]
  unfold wd0 b64 at *; omega
theorem wd1_odd (q : Int) : wd1 (q + q + 1) = wd1 (q + q) := by unfold wd1 b64; omega
theorem wd2_odd (q : Int) : wd2 (q + q + 1) = wd2 (q + q) := by unfold wd2 b64 b128; omega
theorem wd3_odd (q : Int) : wd3 (q + q + 1) = wd3 (q + q) := by unfold wd3 b64 b192; omega

theorem half (a : Int) (j : Nat) : a / 2 ^ j = 2 * (a / 2 ^ (j + 1)) + a / 2 ^ j % 2 := by
  have h : a / 2 ^ (j + 1) = a / 2 ^ j / 2 := (ediv_pow a j 1).symm
  rw [h]; omega

theorem div_unique {x b q r : Int} (h : x = b * q + r) (h0 : 0 ≤ r) (h1 : r < b) : x / b = q ∧ x % b = r := by
  have hb : b ≠ 0 := by omega
  subst h
  constructor
  · rw [Int.add_comm, Int.add_mul_ediv_left _ _ hb, Int.ediv_eq_zero_of_lt h0 h1, Int.zero_add]
  · rw [Int.add_comm, Int.add_mul_emod_self_left]; exact Int.emod_eq_of_lt h0 h1

/-- one round of the division: the rest, doubled, is below twice the divisor -/
theorem div_step {a b : Int} {j : Nat} (hb : 0 < b) {q r t : Int} (hq : q = a / 2 ^ (j + 1) / b) (hr : r = a / 2 ^ (j + 1) % b) (ht : t = a / 2 ^ j % 2) :
    (0 ≤ r ∧ r < b ∧ 0 ≤ t ∧ t ≤ 1) ∧ (b ≤ r + r + t → q + q + 1 = a / 2 ^ j / b ∧ r + r + t - b = a / 2 ^ j % b) ∧ (r + r + t < b → q + q = a / 2 ^ j / b ∧ r + r + t = a / 2 ^ j % b) := by
  have e := half a j
  have e2 := Int.emod_add_mul_ediv (a / 2 ^ (j + 1)) b
  have r0 : 0 ≤ r := hr ▸ Int.emod_nonneg _ (by omega)
  have r1 : r < b := hr ▸ Int.emod_lt_of_pos _ hb
  have t0 : 0 ≤ t := ht ▸ Int.emod_nonneg _ (by decide)
  have t1 : t < 2 := ht ▸ Int.emod_lt_of_pos _ (by decide)
  rw [← hq, ← hr] at e2
  rw [← ht] at e
  have e3 : a / 2 ^ j = b * (q + q) + (r + r + t) := by
    rw [e, ← e2]
    have : b * (q + q) = b * q + b * q := Int.mul_add ..
    omega
  refine ⟨⟨r0, r1, t0, by omega⟩, fun h => ?_, fun h => ?_⟩
  · have e4 : a / 2 ^ j = b * (q + q + 1) + (r + r + t - b) := by
      rw [e3]
      have : b * (q + q + 1) = b * (q + q) + b := by rw [Int.mul_add, Int.mul_one]
      omega
    obtain ⟨h1, h2⟩ := div_unique e4 (by omega) (by omega)
    exact ⟨h1.symm, h2.symm⟩
  · obtain ⟨h1, h2⟩ := div_unique e3 (by omega) h
    exact ⟨h1.symm, h2.symm⟩

/-- when the rest is taken down by the divisor -/
theorem div_over {b r t : Int} (hb : 0 < b ∧ b < b256) (h : 0 ≤ r ∧ r < b ∧ 0 ≤ t ∧ t ≤ 1) (ho : ng r = true) : b ≤ r + r + t := by
  rw [ng_iff] at ho; unfold b256 b255 at *; omega
theorem div_lt {b r t : Int} (hb : 0 < b ∧ b < b256) (h : 0 ≤ r ∧ r < b ∧ 0 ≤ t ∧ t ≤ 1) (ho : ng r = false) (hl : ltU (r + r + t) b = true) : r + r + t < b := by
  have ho' : ¬ ng r = true := by rw [ho]; exact Bool.false_ne_true
  rw [ng_iff] at ho'
  unfold ltU at hl
  rw [decide_eq_true_iff] at hl
  unfold b256 b255 at *; omega
theorem div_ge {b r t : Int} (hb : 0 < b ∧ b < b256) (h : 0 ≤ r ∧ r < b ∧ 0 ≤ t ∧ t ≤ 1) (ho : ng r = false) (hl : ltU (r + r + t) b = false) : b ≤ r + r + t := by
  have ho' : ¬ ng r = true := by rw [ho]; exact Bool.false_ne_true
  rw [ng_iff] at ho'
  unfold ltU at hl
  rw [decide_eq_false_iff_not] at hl
  unfold b256 b255 at *; omega
theorem div_start {a b : Int} (ha : 0 ≤ a ∧ a < b256) : (0 : Int) = a / 2 ^ 256 / b ∧ (0 : Int) = a / 2 ^ 256 % b := by
  have e : a / 2 ^ 256 = 0 := Int.ediv_eq_zero_of_lt ha.1 ha.2
  rw [e]; simp
end Go.Proofs.YtcfiemeknocgjaaDoor
