/- The walk of package wide's halved. Conditions: the number is not below 0. -/
import Derived.Test.YtcfiemeknocgjaaDoorMul2
import Derived.Laws.Bits64b
namespace Go.Proofs.YtcfiemeknocgjaaDoor
open Go.RowKit

theorem or_dis (a c : Int) (h0 : 0 ≤ a) (h1 : a < 9223372036854775808) (k0 : 0 ≤ c) (k1 : c < 18446744073709551616) : bits .or .u64 a (IntKind.u64.wrap (c * 9223372036854775808)) = a + c % 2 * 9223372036854775808 := by
  have e : IntKind.u64.wrap (c * 9223372036854775808) = c % 2 * 9223372036854775808 := by
    show c * 9223372036854775808 % 18446744073709551616 = _
    omega
  rw [e]
  obtain ⟨a, rfl⟩ := Int.eq_ofNat_of_zero_le h0
  obtain ⟨t, ht⟩ := Int.eq_ofNat_of_zero_le (show 0 ≤ c % 2 by omega)
  rw [ht]
  have ht2 : t < 2 := by omega
  have e2 : ((t : Int) * 9223372036854775808) = ((9223372036854775808 * t : Nat) : Int) := by omega
  rw [e2, bits_or_u64_nat a (9223372036854775808 * t) (by omega) (by omega)]
  have := Nat.two_pow_add_eq_or_of_lt (i := 63) (b := a) (by omega) t
  rw [Nat.or_comm] at this
  rw [show (2 : Nat) ^ 63 = 9223372036854775808 by decide] at this
  omega
set_option maxRecDepth 100000 in
set_option maxHeartbeats 1000000 in
theorem halved_raw (a0 a1 a2 a3 h0 h1 h2 : Int) (w : World) (e0 : bits .or .u64 (a0 / 2) (IntKind.u64.wrap (a1 * 9223372036854775808)) = h0) (e1 : bits .or .u64 (a1 / 2) (IntKind.u64.wrap (a2 * 9223372036854775808)) = h1)
    (e2 : bits .or .u64 (a2 / 2) (IntKind.u64.wrap (a3 * 9223372036854775808)) = h2) :
    Calls Tryd.prog 43 #[.agg #[.int .u64 a0, .int .u64 a1, .int .u64 a2, .int .u64 a3]] w fun e w' =>
      e = .returned (.agg #[.int .u64 h0, .int .u64 h1, .int .u64 h2, .int .u64 (a3 / 2)]) ∧ Below w.heap.size w w' := by
  go_enter Tryd.func43, Tryd.ntmps43
  go_wp2
  refine wp_loop_rounds 5 ?_
  iterate 3
    rw [rounds_succ]
    go_wp2
    go_region
    go_wp2
  rw [rounds_succ]
  go_wp2
  rw [rounds_succ]
  go_wp2
  simp [bodyPost, results, Tryd.results43, go_sem]
  exact (((((Below.refl _ _).alloc (Nat.le_refl _) _).alloc (by simp) _).drew).drew).drew
theorem halved_any (x : Int) (h0 : 0 ≤ x) (h1 : x < b256) (w : World) :
    Calls Tryd.prog 43 #[wI x] w fun e w' => e = .returned (wI (x / 2)) ∧ Below w.heap.size w w' := by
  refine (halved_raw (wd0 x) (wd1 x) (wd2 x) (wd3 x) (wd0 (x / 2)) (wd1 (x / 2)) (wd2 (x / 2)) w ?_ ?_ ?_).mono fun e w' ⟨he, hw⟩ => ⟨?_, hw⟩
  · rw [or_dis _ _ (by unfold wd0 b64; omega) (by unfold wd0 b64; omega) (by unfold wd1 b64; omega) (by unfold wd1 b64; omega)]
    unfold wd0 wd1 b64; omega
  · rw [or_dis _ _ (by unfold wd1 b64; omega) (by unfold wd1 b64; omega) (by unfold wd2 b64; omega) (by unfold wd2 b64; omega)]
    unfold wd1 wd2 b128 b64; omega
  · rw [or_dis _ _ (by unfold wd2 b64; omega) (by unfold wd2 b64; omega) (by unfold wd3 b64; omega) (by unfold wd3 b64; omega)]
    unfold wd2 wd3 b128 b192 b64; omega
  · rw [he]
    have : wd3 x / 2 = wd3 (x / 2) := by unfold wd3 b192 b64 b256 at *; omega
    rw [this]
end Go.Proofs.YtcfiemeknocgjaaDoor
