/- gromalaw04.CrossSlopes is true. Conditions: the numbers are ints. -/
import Derived.Test.YtlcbomjdbdgbmaaCrL1
import Derived.Test.YtlcbomjdbdgbmaaCrN
namespace Go.Proofs.Ytlcbomjdbdgbmaa
open Go.RowKit

theorem cslB_true (ax ay bx b_y cx cy dx dy : Int) : cslB ax ay bx b_y cx cy dx dy = true := by
  unfold cslB
  rw [crR_eq, crR_eq]
  cases h1 : sgR ax ay bx b_y
  · rw [slp_0 (.inl h1)]; rfl
  · cases h2 : sgR cx cy dx dy
    · rw [slp_0 (.inr h2)]; rfl
    · rw [slp_eq h1 h2, slp_eq h2 h1, sign_wrap]
      have e : wyx ax ay bx b_y * wyy cx cy dx dy - wyy ax ay bx b_y * wyx cx cy dx dy = -(wyx cx cy dx dy * wyy ax ay bx b_y - wyy cx cy dx dy * wyx ax ay bx b_y) := by
        rw [Int.mul_comm (wyx ax ay bx b_y), Int.mul_comm (wyy ax ay bx b_y)]; omega
      rw [e, Int.sign_neg]
      rw [cond_true, cond_true]
      have k : ∀ s t : Int, (bif s == s then bif t == t then true else false else false) = true := fun s t => by simp
      exact k _ _
theorem CSlopes_any (ax ay bx b_y cx cy dx dy : Int) (h1 : In64 ax) (h2 : In64 ay) (h3 : In64 bx) (h4 : In64 b_y) (h5 : In64 cx) (h6 : In64 cy) (h7 : In64 dx) (h8 : In64 dy) (w : World) :
    Calls Try.prog 12 #[.agg #[.int .i64 ax, .int .i64 ay, .int .i64 bx, .int .i64 b_y], .agg #[.int .i64 cx, .int .i64 cy, .int .i64 dx, .int .i64 dy]] w fun e w' => e = .returned (.bool true) ∧ Below w.heap.size w w' :=
  CSlopes_is ax ay bx b_y cx cy dx dy true (cslB_true ax ay bx b_y cx cy dx dy) h1 h2 h3 h4 h5 h6 h7 h8 w
end Go.Proofs.Ytlcbomjdbdgbmaa
