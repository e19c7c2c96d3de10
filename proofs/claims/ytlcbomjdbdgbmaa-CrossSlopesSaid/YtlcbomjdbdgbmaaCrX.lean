/- gromalaw04.awake is true. Conditions: none. -/
import Derived.Test.YtlcbomjdbdgbmaaCrW
namespace Go.Proofs.Ytlcbomjdbdgbmaa
open Go.RowKit

set_option maxRecDepth 100000 in
theorem cawk_true : cawk = true := by kernel_rfl
theorem cawake_any (w : World) : Calls Try.prog 54 #[] w fun e w' => e = .returned (.bool true) ∧ Below w.heap.size w w' := cawake_is true cawk_true w
end Go.Proofs.Ytlcbomjdbdgbmaa
