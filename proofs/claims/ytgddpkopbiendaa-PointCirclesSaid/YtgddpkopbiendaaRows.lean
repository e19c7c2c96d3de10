/-
  No cell of these rows narrows 'for every input' (looked for: loops, veiled, ifaces, maps, wideKeys, modest, calm, conditions, laid).
  DERIVED. THE GIVEN ROWS OF THIS SEAT. 13 by the template 'for every input the law returns true; each argument reads behind the call as it read before'; 0 by the template 'total and deterministic' (their statements: YtgddpkopbiendaaTotals.lean).
  GIVEN WITH THE SEED: the statements are not yours to turn. If you find one false, say at which input.
  Laid BY PROGRAM, IN A SANDBOX (cutbox-rows.mjs): the forced cells as the released guide's own fill.sh prints them over the translation 8044c611f6b3ee24… (all of the seat's roots in one cut). By AI agents, Wed Nov 11 2026. No macro, syntax, notation, axiom, sorry.
-/
import Derived.Test.YtgddpkopbiendaaChecked
import GoSem.Claim
import GoSem.ClaimJoined
import GoSem.ClaimMapViews
import Derived.JoinedTies
import Derived.KernelRfl
namespace Go.Proofs.Ytgddpkopbiendaa
/- THE CELL 'sum', in the pinned program and in every row, IS THE sha256 OF THE DUMP (.gsa) THAT YtgddpkopbiendaaProg.lean LOADS. Nothing in Lean hashes anything: it is a label: what it is worth is what the hold of that sum in a sandbox is worth. -/
noncomputable def Try.pinned : Pinned := { name := "ytgddpkopbiendaa", sum := "8044c611f6b3ee24b80fec33ef5ac96bd85f7fe9eb298d61312242681a709542", checked := Try.checked }
namespace Rows
def none {H : Type} : Left H := { results := [], args := [] }

/-- 'gromalaw02.RatioFloors': WHATEVER THE INPUT: true; the input reads as it did. -/
def ratioFloorsSpec : ChangeSpec := { name := "ratioFloors", fn := fun _ => fun
  | [d] => { results := [.lit (.bool true)], args := [d] }
  | _ => none }
def ratioFloorsRow : OpenClaim := { program := "ytgddpkopbiendaa", sum := "8044c611f6b3ee24b80fec33ef5ac96bd85f7fe9eb298d61312242681a709542", func := "groma/gromalaw02.RatioFloors", spec := "ratioFloors", inPlace := ["math/bits.Add64"], apart := false }
def RatioFloorsSaid : Prop := ratioFloorsRow.holds Try.pinned (OpenSpec.ofChange ratioFloorsSpec)

/-- ITS FALSE NEIGHBOUR: 'it returns false'. Refute it at one input. -/
def ratioFloorsWrong : ChangeSpec := { name := "ratioFloors", fn := fun _ => fun
  | [d] => { results := [.lit (.bool false)], args := [d] }
  | _ => none }
def RatioFloorsWrongFalsely : Prop := ratioFloorsRow.holds Try.pinned (OpenSpec.ofChange ratioFloorsWrong)

/-- 'gromalaw02.RatioMakes': WHATEVER THE INPUT: true; the input reads as it did. -/
def ratioMakesSpec : ChangeSpec := { name := "ratioMakes", fn := fun _ => fun
  | [d1, d2, d3] => { results := [.lit (.bool true)], args := [d1, d2, d3] }
  | _ => none }
def ratioMakesRow : OpenClaim := { program := "ytgddpkopbiendaa", sum := "8044c611f6b3ee24b80fec33ef5ac96bd85f7fe9eb298d61312242681a709542", func := "groma/gromalaw02.RatioMakes", spec := "ratioMakes", inPlace := ["math/bits.Add64"], apart := false }
def RatioMakesSaid : Prop := ratioMakesRow.holds Try.pinned (OpenSpec.ofChange ratioMakesSpec)

/-- ITS FALSE NEIGHBOUR: 'it returns false'. Refute it at one input. -/
def ratioMakesWrong : ChangeSpec := { name := "ratioMakes", fn := fun _ => fun
  | [d1, d2, d3] => { results := [.lit (.bool false)], args := [d1, d2, d3] }
  | _ => none }
def RatioMakesWrongFalsely : Prop := ratioMakesRow.holds Try.pinned (OpenSpec.ofChange ratioMakesWrong)

/-- 'gromalaw02.RatioReduces': WHATEVER THE INPUT: true; the input reads as it did. -/
def ratioReducesSpec : ChangeSpec := { name := "ratioReduces", fn := fun _ => fun
  | [d1, d2] => { results := [.lit (.bool true)], args := [d1, d2] }
  | _ => none }
def ratioReducesRow : OpenClaim := { program := "ytgddpkopbiendaa", sum := "8044c611f6b3ee24b80fec33ef5ac96bd85f7fe9eb298d61312242681a709542", func := "groma/gromalaw02.RatioReduces", spec := "ratioReduces", inPlace := ["math/bits.Add64"], apart := false }
def RatioReducesSaid : Prop := ratioReducesRow.holds Try.pinned (OpenSpec.ofChange ratioReducesSpec)

/-- ITS FALSE NEIGHBOUR: 'it returns false'. Refute it at one input. -/
def ratioReducesWrong : ChangeSpec := { name := "ratioReduces", fn := fun _ => fun
  | [d1, d2] => { results := [.lit (.bool false)], args := [d1, d2] }
  | _ => none }
def RatioReducesWrongFalsely : Prop := ratioReducesRow.holds Try.pinned (OpenSpec.ofChange ratioReducesWrong)

/-- 'gromalaw03.PointTurns': WHATEVER THE INPUT: true; the input reads as it did. -/
def pointTurnsSpec : ChangeSpec := { name := "pointTurns", fn := fun _ => fun
  | [d1, d2, d3] => { results := [.lit (.bool true)], args := [d1, d2, d3] }
  | _ => none }
def pointTurnsRow : OpenClaim := { program := "ytgddpkopbiendaa", sum := "8044c611f6b3ee24b80fec33ef5ac96bd85f7fe9eb298d61312242681a709542", func := "groma/gromalaw03.PointTurns", spec := "pointTurns", inPlace := ["math/bits.Add64"], apart := false }
def PointTurnsSaid : Prop := pointTurnsRow.holds Try.pinned (OpenSpec.ofChange pointTurnsSpec)

/-- ITS FALSE NEIGHBOUR: 'it returns false'. Refute it at one input. -/
def pointTurnsWrong : ChangeSpec := { name := "pointTurns", fn := fun _ => fun
  | [d1, d2, d3] => { results := [.lit (.bool false)], args := [d1, d2, d3] }
  | _ => none }
def PointTurnsWrongFalsely : Prop := pointTurnsRow.holds Try.pinned (OpenSpec.ofChange pointTurnsWrong)

/-- 'gromalaw03.PointOrders': WHATEVER THE INPUT: true; the input reads as it did. -/
def pointOrdersSpec : ChangeSpec := { name := "pointOrders", fn := fun _ => fun
  | [d1, d2] => { results := [.lit (.bool true)], args := [d1, d2] }
  | _ => none }
def pointOrdersRow : OpenClaim := { program := "ytgddpkopbiendaa", sum := "8044c611f6b3ee24b80fec33ef5ac96bd85f7fe9eb298d61312242681a709542", func := "groma/gromalaw03.PointOrders", spec := "pointOrders", inPlace := ["math/bits.Add64"], apart := false }
def PointOrdersSaid : Prop := pointOrdersRow.holds Try.pinned (OpenSpec.ofChange pointOrdersSpec)

/-- ITS FALSE NEIGHBOUR: 'it returns false'. Refute it at one input. -/
def pointOrdersWrong : ChangeSpec := { name := "pointOrders", fn := fun _ => fun
  | [d1, d2] => { results := [.lit (.bool false)], args := [d1, d2] }
  | _ => none }
def PointOrdersWrongFalsely : Prop := pointOrdersRow.holds Try.pinned (OpenSpec.ofChange pointOrdersWrong)

/-- 'gromalaw03.PointOn': WHATEVER THE INPUT: true; the input reads as it did. -/
def pointOnSpec : ChangeSpec := { name := "pointOn", fn := fun _ => fun
  | [d1, d2, d3] => { results := [.lit (.bool true)], args := [d1, d2, d3] }
  | _ => none }
def pointOnRow : OpenClaim := { program := "ytgddpkopbiendaa", sum := "8044c611f6b3ee24b80fec33ef5ac96bd85f7fe9eb298d61312242681a709542", func := "groma/gromalaw03.PointOn", spec := "pointOn", inPlace := ["math/bits.Add64"], apart := false }
def PointOnSaid : Prop := pointOnRow.holds Try.pinned (OpenSpec.ofChange pointOnSpec)

/-- ITS FALSE NEIGHBOUR: 'it returns false'. Refute it at one input. -/
def pointOnWrong : ChangeSpec := { name := "pointOn", fn := fun _ => fun
  | [d1, d2, d3] => { results := [.lit (.bool false)], args := [d1, d2, d3] }
  | _ => none }
def PointOnWrongFalsely : Prop := pointOnRow.holds Try.pinned (OpenSpec.ofChange pointOnWrong)

/-- 'gromalaw03.PointCircles': WHATEVER THE INPUT: true; the input reads as it did. -/
def pointCirclesSpec : ChangeSpec := { name := "pointCircles", fn := fun _ => fun
  | [d] => { results := [.lit (.bool true)], args := [d] }
  | _ => none }
def pointCirclesRow : OpenClaim := { program := "ytgddpkopbiendaa", sum := "8044c611f6b3ee24b80fec33ef5ac96bd85f7fe9eb298d61312242681a709542", func := "groma/gromalaw03.PointCircles", spec := "pointCircles", inPlace := ["math/bits.Add64"], apart := false }
def PointCirclesSaid : Prop := pointCirclesRow.holds Try.pinned (OpenSpec.ofChange pointCirclesSpec)

/-- ITS FALSE NEIGHBOUR: 'it returns false'. Refute it at one input. -/
def pointCirclesWrong : ChangeSpec := { name := "pointCircles", fn := fun _ => fun
  | [d] => { results := [.lit (.bool false)], args := [d] }
  | _ => none }
def PointCirclesWrongFalsely : Prop := pointCirclesRow.holds Try.pinned (OpenSpec.ofChange pointCirclesWrong)

/-- 'gromalaw03.PointAreas': WHATEVER THE INPUT: true; the input reads as it did. -/
def pointAreasSpec : ChangeSpec := { name := "pointAreas", fn := fun _ => fun
  | [d1, d2] => { results := [.lit (.bool true)], args := [d1, d2] }
  | _ => none }
def pointAreasRow : OpenClaim := { program := "ytgddpkopbiendaa", sum := "8044c611f6b3ee24b80fec33ef5ac96bd85f7fe9eb298d61312242681a709542", func := "groma/gromalaw03.PointAreas", spec := "pointAreas", inPlace := ["math/bits.Add64"], apart := false }
def PointAreasSaid : Prop := pointAreasRow.holds Try.pinned (OpenSpec.ofChange pointAreasSpec)

/-- ITS FALSE NEIGHBOUR: 'it returns false'. Refute it at one input. -/
def pointAreasWrong : ChangeSpec := { name := "pointAreas", fn := fun _ => fun
  | [d1, d2] => { results := [.lit (.bool false)], args := [d1, d2] }
  | _ => none }
def PointAreasWrongFalsely : Prop := pointAreasRow.holds Try.pinned (OpenSpec.ofChange pointAreasWrong)

/-- 'gromalaw03.PointIn': WHATEVER THE INPUT: true; the input reads as it did. -/
def pointInSpec : ChangeSpec := { name := "pointIn", fn := fun _ => fun
  | [d] => { results := [.lit (.bool true)], args := [d] }
  | _ => none }
def pointInRow : OpenClaim := { program := "ytgddpkopbiendaa", sum := "8044c611f6b3ee24b80fec33ef5ac96bd85f7fe9eb298d61312242681a709542", func := "groma/gromalaw03.PointIn", spec := "pointIn", inPlace := ["math/bits.Add64"], apart := false }
def PointInSaid : Prop := pointInRow.holds Try.pinned (OpenSpec.ofChange pointInSpec)

/-- ITS FALSE NEIGHBOUR: 'it returns false'. Refute it at one input. -/
def pointInWrong : ChangeSpec := { name := "pointIn", fn := fun _ => fun
  | [d] => { results := [.lit (.bool false)], args := [d] }
  | _ => none }
def PointInWrongFalsely : Prop := pointInRow.holds Try.pinned (OpenSpec.ofChange pointInWrong)

/-- 'gromalaw03.PointWinds': WHATEVER THE INPUT: true; the input reads as it did. -/
def pointWindsSpec : ChangeSpec := { name := "pointWinds", fn := fun _ => fun
  | [d1, d2] => { results := [.lit (.bool true)], args := [d1, d2] }
  | _ => none }
def pointWindsRow : OpenClaim := { program := "ytgddpkopbiendaa", sum := "8044c611f6b3ee24b80fec33ef5ac96bd85f7fe9eb298d61312242681a709542", func := "groma/gromalaw03.PointWinds", spec := "pointWinds", inPlace := ["math/bits.Add64"], apart := false }
def PointWindsSaid : Prop := pointWindsRow.holds Try.pinned (OpenSpec.ofChange pointWindsSpec)

/-- ITS FALSE NEIGHBOUR: 'it returns false'. Refute it at one input. -/
def pointWindsWrong : ChangeSpec := { name := "pointWinds", fn := fun _ => fun
  | [d1, d2] => { results := [.lit (.bool false)], args := [d1, d2] }
  | _ => none }
def PointWindsWrongFalsely : Prop := pointWindsRow.holds Try.pinned (OpenSpec.ofChange pointWindsWrong)

/-- 'gromalaw02.RatioCounts': WHATEVER THE INPUT: true; the input reads as it did. -/
def ratioCountsSpec : ChangeSpec := { name := "ratioCounts", fn := fun _ => fun
  | [d1, d2] => { results := [.lit (.bool true)], args := [d1, d2] }
  | _ => none }
def ratioCountsRow : OpenClaim := { program := "ytgddpkopbiendaa", sum := "8044c611f6b3ee24b80fec33ef5ac96bd85f7fe9eb298d61312242681a709542", func := "groma/gromalaw02.RatioCounts", spec := "ratioCounts", inPlace := ["math/bits.Add64"], apart := false }
def RatioCountsSaid : Prop := ratioCountsRow.holds Try.pinned (OpenSpec.ofChange ratioCountsSpec)

/-- ITS FALSE NEIGHBOUR: 'it returns false'. Refute it at one input. -/
def ratioCountsWrong : ChangeSpec := { name := "ratioCounts", fn := fun _ => fun
  | [d1, d2] => { results := [.lit (.bool false)], args := [d1, d2] }
  | _ => none }
def RatioCountsWrongFalsely : Prop := ratioCountsRow.holds Try.pinned (OpenSpec.ofChange ratioCountsWrong)

/-- 'gromalaw02.RatioOrders': WHATEVER THE INPUT: true; the input reads as it did. -/
def ratioOrdersSpec : ChangeSpec := { name := "ratioOrders", fn := fun _ => fun
  | [d1, d2] => { results := [.lit (.bool true)], args := [d1, d2] }
  | _ => none }
def ratioOrdersRow : OpenClaim := { program := "ytgddpkopbiendaa", sum := "8044c611f6b3ee24b80fec33ef5ac96bd85f7fe9eb298d61312242681a709542", func := "groma/gromalaw02.RatioOrders", spec := "ratioOrders", inPlace := ["math/bits.Add64"], apart := false }
def RatioOrdersSaid : Prop := ratioOrdersRow.holds Try.pinned (OpenSpec.ofChange ratioOrdersSpec)

/-- ITS FALSE NEIGHBOUR: 'it returns false'. Refute it at one input. -/
def ratioOrdersWrong : ChangeSpec := { name := "ratioOrders", fn := fun _ => fun
  | [d1, d2] => { results := [.lit (.bool false)], args := [d1, d2] }
  | _ => none }
def RatioOrdersWrongFalsely : Prop := ratioOrdersRow.holds Try.pinned (OpenSpec.ofChange ratioOrdersWrong)

/-- 'gromalaw03.PointHulls': WHATEVER THE INPUT: true; the input reads as it did. -/
def pointHullsSpec : ChangeSpec := { name := "pointHulls", fn := fun _ => fun
  | [d] => { results := [.lit (.bool true)], args := [d] }
  | _ => none }
def pointHullsRow : OpenClaim := { program := "ytgddpkopbiendaa", sum := "8044c611f6b3ee24b80fec33ef5ac96bd85f7fe9eb298d61312242681a709542", func := "groma/gromalaw03.PointHulls", spec := "pointHulls", inPlace := ["math/bits.Add64"], unfollowed := true, recurses := true, apart := false }
def PointHullsSaid : Prop := pointHullsRow.holds Try.pinned (OpenSpec.ofChange pointHullsSpec)

/-- ITS FALSE NEIGHBOUR: 'it returns false'. Refute it at one input. -/
def pointHullsWrong : ChangeSpec := { name := "pointHulls", fn := fun _ => fun
  | [d] => { results := [.lit (.bool false)], args := [d] }
  | _ => none }
def PointHullsWrongFalsely : Prop := pointHullsRow.holds Try.pinned (OpenSpec.ofChange pointHullsWrong)

/- THE SECOND FORM. 'bulk': how many values and letters a reading holds, each counted each time it is reached (what is shared counts as often as it is met; a slice's spare places count too). A statement '..UptoSaid' is the law's where the arguments, and the package variables that the reading takes, are together of bulk at most 1048576: NARROWER than '..Said'. Prove '..Said' where nothing that the law and all that it calls make is longer than what came in: it says more and counts as full. Else prove '..UptoSaid'. A law counts once. -/
mutual
def uptoBulk {H : Type} : DataW H → Nat
  | .lit (.string bytes) => bytes.length + 1
  | .lit _ => 1
  | .nil => 1
  | .ptr d => uptoBulk d + 1
  | .slice elems spare => uptoBulkAll elems + uptoBulkAll spare + 1
  | .agg parts => uptoBulkAll parts + 1
  | .iface _ d => uptoBulk d + 1
  | .map entries => uptoBulkEntries entries + 1
  | .held _ => 1
def uptoBulkAll {H : Type} : List (DataW H) → Nat
  | [] => 0
  | d :: r => uptoBulk d + uptoBulkAll r
def uptoBulkEntries {H : Type} : List (Lit × DataW H) → Nat
  | [] => 0
  | x :: r => uptoBulkEntry x + uptoBulkEntries r
def uptoBulkEntry {H : Type} : Lit × DataW H → Nat
  | (.string bytes, d) => bytes.length + uptoBulk d + 1
  | (_, d) => uptoBulk d + 1
 end
def uptoSmall : (H : Type) → List (DataW H) → Bool := fun _ ds => decide (uptoBulkAll ds ≤ 1048576)
def OpenSpec.upto (s : _root_.Go.ChangeSpec) : _root_.Go.OpenSpec := { _root_.Go.OpenSpec.ofChange s with cond := some uptoSmall }

/-- 'gromalaw02.RatioFloors', WHERE WHAT IT READS IS OF BULK AT MOST 1048576: true; the input reads as it did. -/
def ratioFloorsUptoRow : OpenClaim := { program := "ytgddpkopbiendaa", sum := "8044c611f6b3ee24b80fec33ef5ac96bd85f7fe9eb298d61312242681a709542", func := "groma/gromalaw02.RatioFloors", spec := "ratioFloors", inPlace := ["math/bits.Add64"], apart := false, narrowed := true }
def RatioFloorsUptoSaid : Prop := ratioFloorsUptoRow.holds Try.pinned (OpenSpec.upto ratioFloorsSpec)

/-- 'gromalaw02.RatioMakes', WHERE WHAT IT READS IS OF BULK AT MOST 1048576: true; the input reads as it did. -/
def ratioMakesUptoRow : OpenClaim := { program := "ytgddpkopbiendaa", sum := "8044c611f6b3ee24b80fec33ef5ac96bd85f7fe9eb298d61312242681a709542", func := "groma/gromalaw02.RatioMakes", spec := "ratioMakes", inPlace := ["math/bits.Add64"], apart := false, narrowed := true }
def RatioMakesUptoSaid : Prop := ratioMakesUptoRow.holds Try.pinned (OpenSpec.upto ratioMakesSpec)

/-- 'gromalaw02.RatioReduces', WHERE WHAT IT READS IS OF BULK AT MOST 1048576: true; the input reads as it did. -/
def ratioReducesUptoRow : OpenClaim := { program := "ytgddpkopbiendaa", sum := "8044c611f6b3ee24b80fec33ef5ac96bd85f7fe9eb298d61312242681a709542", func := "groma/gromalaw02.RatioReduces", spec := "ratioReduces", inPlace := ["math/bits.Add64"], apart := false, narrowed := true }
def RatioReducesUptoSaid : Prop := ratioReducesUptoRow.holds Try.pinned (OpenSpec.upto ratioReducesSpec)

/-- 'gromalaw03.PointTurns', WHERE WHAT IT READS IS OF BULK AT MOST 1048576: true; the input reads as it did. -/
def pointTurnsUptoRow : OpenClaim := { program := "ytgddpkopbiendaa", sum := "8044c611f6b3ee24b80fec33ef5ac96bd85f7fe9eb298d61312242681a709542", func := "groma/gromalaw03.PointTurns", spec := "pointTurns", inPlace := ["math/bits.Add64"], apart := false, narrowed := true }
def PointTurnsUptoSaid : Prop := pointTurnsUptoRow.holds Try.pinned (OpenSpec.upto pointTurnsSpec)

/-- 'gromalaw03.PointOrders', WHERE WHAT IT READS IS OF BULK AT MOST 1048576: true; the input reads as it did. -/
def pointOrdersUptoRow : OpenClaim := { program := "ytgddpkopbiendaa", sum := "8044c611f6b3ee24b80fec33ef5ac96bd85f7fe9eb298d61312242681a709542", func := "groma/gromalaw03.PointOrders", spec := "pointOrders", inPlace := ["math/bits.Add64"], apart := false, narrowed := true }
def PointOrdersUptoSaid : Prop := pointOrdersUptoRow.holds Try.pinned (OpenSpec.upto pointOrdersSpec)

/-- 'gromalaw03.PointOn', WHERE WHAT IT READS IS OF BULK AT MOST 1048576: true; the input reads as it did. -/
def pointOnUptoRow : OpenClaim := { program := "ytgddpkopbiendaa", sum := "8044c611f6b3ee24b80fec33ef5ac96bd85f7fe9eb298d61312242681a709542", func := "groma/gromalaw03.PointOn", spec := "pointOn", inPlace := ["math/bits.Add64"], apart := false, narrowed := true }
def PointOnUptoSaid : Prop := pointOnUptoRow.holds Try.pinned (OpenSpec.upto pointOnSpec)

/-- 'gromalaw03.PointCircles', WHERE WHAT IT READS IS OF BULK AT MOST 1048576: true; the input reads as it did. -/
def pointCirclesUptoRow : OpenClaim := { program := "ytgddpkopbiendaa", sum := "8044c611f6b3ee24b80fec33ef5ac96bd85f7fe9eb298d61312242681a709542", func := "groma/gromalaw03.PointCircles", spec := "pointCircles", inPlace := ["math/bits.Add64"], apart := false, narrowed := true }
def PointCirclesUptoSaid : Prop := pointCirclesUptoRow.holds Try.pinned (OpenSpec.upto pointCirclesSpec)

/-- 'gromalaw03.PointAreas', WHERE WHAT IT READS IS OF BULK AT MOST 1048576: true; the input reads as it did. -/
def pointAreasUptoRow : OpenClaim := { program := "ytgddpkopbiendaa", sum := "8044c611f6b3ee24b80fec33ef5ac96bd85f7fe9eb298d61312242681a709542", func := "groma/gromalaw03.PointAreas", spec := "pointAreas", inPlace := ["math/bits.Add64"], apart := false, narrowed := true }
def PointAreasUptoSaid : Prop := pointAreasUptoRow.holds Try.pinned (OpenSpec.upto pointAreasSpec)

/-- 'gromalaw03.PointIn', WHERE WHAT IT READS IS OF BULK AT MOST 1048576: true; the input reads as it did. -/
def pointInUptoRow : OpenClaim := { program := "ytgddpkopbiendaa", sum := "8044c611f6b3ee24b80fec33ef5ac96bd85f7fe9eb298d61312242681a709542", func := "groma/gromalaw03.PointIn", spec := "pointIn", inPlace := ["math/bits.Add64"], apart := false, narrowed := true }
def PointInUptoSaid : Prop := pointInUptoRow.holds Try.pinned (OpenSpec.upto pointInSpec)

/-- 'gromalaw03.PointWinds', WHERE WHAT IT READS IS OF BULK AT MOST 1048576: true; the input reads as it did. -/
def pointWindsUptoRow : OpenClaim := { program := "ytgddpkopbiendaa", sum := "8044c611f6b3ee24b80fec33ef5ac96bd85f7fe9eb298d61312242681a709542", func := "groma/gromalaw03.PointWinds", spec := "pointWinds", inPlace := ["math/bits.Add64"], apart := false, narrowed := true }
def PointWindsUptoSaid : Prop := pointWindsUptoRow.holds Try.pinned (OpenSpec.upto pointWindsSpec)

/-- 'gromalaw02.RatioCounts', WHERE WHAT IT READS IS OF BULK AT MOST 1048576: true; the input reads as it did. -/
def ratioCountsUptoRow : OpenClaim := { program := "ytgddpkopbiendaa", sum := "8044c611f6b3ee24b80fec33ef5ac96bd85f7fe9eb298d61312242681a709542", func := "groma/gromalaw02.RatioCounts", spec := "ratioCounts", inPlace := ["math/bits.Add64"], apart := false, narrowed := true }
def RatioCountsUptoSaid : Prop := ratioCountsUptoRow.holds Try.pinned (OpenSpec.upto ratioCountsSpec)

/-- 'gromalaw02.RatioOrders', WHERE WHAT IT READS IS OF BULK AT MOST 1048576: true; the input reads as it did. -/
def ratioOrdersUptoRow : OpenClaim := { program := "ytgddpkopbiendaa", sum := "8044c611f6b3ee24b80fec33ef5ac96bd85f7fe9eb298d61312242681a709542", func := "groma/gromalaw02.RatioOrders", spec := "ratioOrders", inPlace := ["math/bits.Add64"], apart := false, narrowed := true }
def RatioOrdersUptoSaid : Prop := ratioOrdersUptoRow.holds Try.pinned (OpenSpec.upto ratioOrdersSpec)

/-- 'gromalaw03.PointHulls', WHERE WHAT IT READS IS OF BULK AT MOST 1048576: true; the input reads as it did. -/
def pointHullsUptoRow : OpenClaim := { program := "ytgddpkopbiendaa", sum := "8044c611f6b3ee24b80fec33ef5ac96bd85f7fe9eb298d61312242681a709542", func := "groma/gromalaw03.PointHulls", spec := "pointHulls", inPlace := ["math/bits.Add64"], unfollowed := true, recurses := true, apart := false, narrowed := true }
def PointHullsUptoSaid : Prop := pointHullsUptoRow.holds Try.pinned (OpenSpec.upto pointHullsSpec)

end Rows
end Go.Proofs.Ytgddpkopbiendaa
