/- The walks of gromalaw03's ref, of gromaref03's Right and Ahead. Conditions: none. -/
import Derived.Test.YtgddpkopbiendaaPnt6
namespace Go.Proofs.Ytgddpkopbiendaa
open Go.RowKit

set_option maxRecDepth 100000 in
set_option maxHeartbeats 1000000 in
theorem pref_any (x y : Int) (w : World) : Calls Try.prog 39 #[pI x y] w fun e w' => e = .returned (pI x y) ∧ Below w.heap.size w w' := by
  go_enter Try.func39, Try.ntmps39
  go_wp2
  simp [bodyPost, results, Try.results39, go_sem]
  exact below_a2 _ _ _

set_option maxRecDepth 100000 in
set_option maxHeartbeats 1000000 in
theorem rRight_any (x y : Int) (w : World) : Calls Try.prog 44 #[pI x y] w fun e w' => e = .returned (.bool (rp x y)) ∧ Below w.heap.size w w' := by
  obtain ⟨t, ht⟩ : ∃ t, rp x y = t := ⟨_, rfl⟩
  rw [ht]
  have HT := Lib.hid ht
  clear ht
  by_cases h1 : -2199023255552 ≤ x <;> by_cases h2 : x ≤ 2199023255552 <;> by_cases h3 : -2199023255552 ≤ y <;> by_cases h4 : y ≤ 2199023255552
  all_goals first | (exfalso; omega) | skip
  all_goals
    go_enter Try.func44, Try.ntmps44
    go_wp2
    go_ret
    refine ⟨congrArg (fun t => Ending.returned (.bool t)) ?_, below_a1 _ _⟩
    rw [← HT.out]; unfold rp inC; rw [Bool.eq_iff_iff]; simp; omega

/-- does one come ahead of another one? -/
def ahd (ax ay bx b_y : Int) : Bool := decide (ax < bx) || decide (ax = bx) && decide (ay < b_y)
set_option maxRecDepth 100000 in
set_option maxHeartbeats 1000000 in
theorem Ahead_any (ax ay bx b_y : Int) (w : World) : Calls Try.prog 41 #[pI ax ay, pI bx b_y] w fun e w' => e = .returned (.bool (ahd ax ay bx b_y)) ∧ Below w.heap.size w w' := by
  obtain ⟨t, ht⟩ : ∃ t, ahd ax ay bx b_y = t := ⟨_, rfl⟩
  rw [ht]
  have HT := Lib.hid ht
  clear ht
  by_cases h1 : ax < bx <;> by_cases h2 : ax = bx <;> by_cases h3 : ay < b_y
  all_goals first | (exfalso; omega) | skip
  all_goals
    go_enter Try.func41, Try.ntmps41
    go_wp2
    go_ret
    refine ⟨congrArg (fun t => Ending.returned (.bool t)) ?_, below_a2 _ _ _⟩
    rw [← HT.out]; unfold ahd; rw [Bool.eq_iff_iff]; simp; omega
end Go.Proofs.Ytgddpkopbiendaa
