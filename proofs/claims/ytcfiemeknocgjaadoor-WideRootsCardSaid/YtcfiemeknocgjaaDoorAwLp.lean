/- A world's name where a round of a loop ends. Conditions: none. -/
import Derived.Test.YtcfiemeknocgjaaDoorProg
import Derived.Deep.LoopGhost
import Derived.RowKit
namespace Go.Proofs.YtcfiemeknocgjaaDoor
open Go.RowKit

theorem k_world {K : Act → World → Prop} {a : Act} {w : World} (h : ∀ W, W = w → K a W) : K a w := h w rfl
theorem sqn (m : Int) : 0 ≤ m * m := by
  rcases Int.le_total 0 m with h | h
  · exact Int.mul_nonneg h h
  · have := Int.mul_nonneg (show 0 ≤ -m by omega) (show 0 ≤ -m by omega)
    rwa [Int.neg_mul_neg] at this
end Go.Proofs.YtcfiemeknocgjaaDoor
