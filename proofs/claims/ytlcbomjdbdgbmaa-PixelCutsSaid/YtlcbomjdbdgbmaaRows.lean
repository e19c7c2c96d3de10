/-
  No cell of these rows narrows 'for every input' (looked for: loops, veiled, ifaces, maps, wideKeys, modest, calm, conditions, laid).
  DERIVED. THE GIVEN ROWS OF THIS SEAT. 13 by the template 'for every input the law returns true; each argument reads behind the call as it read before'; 0 by the template 'total and deterministic' (their statements: YtlcbomjdbdgbmaaTotals.lean).
  GIVEN WITH THE SEED: the statements are not yours to turn. If you find one false, say at which input.
  Laid BY PROGRAM, IN A SANDBOX (cutbox-rows.mjs): the forced cells as the released guide's own fill.sh prints them over the translation 1845fe614c8c3e4b… (all of the seat's roots in one cut). By AI agents, Wed Nov 11 2026. No macro, syntax, notation, axiom, sorry.
-/
import Derived.Test.YtlcbomjdbdgbmaaChecked
import GoSem.Claim
import GoSem.ClaimJoined
import GoSem.ClaimMapViews
import Derived.JoinedTies
import Derived.KernelRfl
namespace Go.Proofs.Ytlcbomjdbdgbmaa
/- THE CELL 'sum', in the pinned program and in every row, IS THE sha256 OF THE DUMP (.gsa) THAT YtlcbomjdbdgbmaaProg.lean LOADS. Nothing in Lean hashes anything: it is a label: what it is worth is what the hold of that sum in a sandbox is worth. -/
noncomputable def Try.pinned : Pinned := { name := "ytlcbomjdbdgbmaa", sum := "1845fe614c8c3e4be5c947863650843cf0a506fff7bc792e5ecaa45785bad80e", checked := Try.checked }
namespace Rows
def none {H : Type} : Left H := { results := [], args := [] }

/-- 'gromalaw03.PointAreas': WHATEVER THE INPUT: true; the input reads as it did. -/
def pointAreasSpec : ChangeSpec := { name := "pointAreas", fn := fun _ => fun
  | [d1, d2] => { results := [.lit (.bool true)], args := [d1, d2] }
  | _ => none }
def pointAreasRow : OpenClaim := { program := "ytlcbomjdbdgbmaa", sum := "1845fe614c8c3e4be5c947863650843cf0a506fff7bc792e5ecaa45785bad80e", func := "groma/gromalaw03.PointAreas", spec := "pointAreas", inPlace := ["math/bits.Add64"], apart := false }
def PointAreasSaid : Prop := pointAreasRow.holds Try.pinned (OpenSpec.ofChange pointAreasSpec)

/-- ITS FALSE NEIGHBOUR: 'it returns false'. Refute it at one input. -/
def pointAreasWrong : ChangeSpec := { name := "pointAreas", fn := fun _ => fun
  | [d1, d2] => { results := [.lit (.bool false)], args := [d1, d2] }
  | _ => none }
def PointAreasWrongFalsely : Prop := pointAreasRow.holds Try.pinned (OpenSpec.ofChange pointAreasWrong)

/-- 'gromalaw03.PointWinds': WHATEVER THE INPUT: true; the input reads as it did. -/
def pointWindsSpec : ChangeSpec := { name := "pointWinds", fn := fun _ => fun
  | [d1, d2] => { results := [.lit (.bool true)], args := [d1, d2] }
  | _ => none }
def pointWindsRow : OpenClaim := { program := "ytlcbomjdbdgbmaa", sum := "1845fe614c8c3e4be5c947863650843cf0a506fff7bc792e5ecaa45785bad80e", func := "groma/gromalaw03.PointWinds", spec := "pointWinds", inPlace := ["math/bits.Add64"], apart := false }
def PointWindsSaid : Prop := pointWindsRow.holds Try.pinned (OpenSpec.ofChange pointWindsSpec)

/-- ITS FALSE NEIGHBOUR: 'it returns false'. Refute it at one input. -/
def pointWindsWrong : ChangeSpec := { name := "pointWinds", fn := fun _ => fun
  | [d1, d2] => { results := [.lit (.bool false)], args := [d1, d2] }
  | _ => none }
def PointWindsWrongFalsely : Prop := pointWindsRow.holds Try.pinned (OpenSpec.ofChange pointWindsWrong)

/-- 'gromalaw15.PixelCuts': WHATEVER THE INPUT: true; the input reads as it did. -/
def pixelCutsSpec : ChangeSpec := { name := "pixelCuts", fn := fun _ => fun
  | [d1, d2, d3] => { results := [.lit (.bool true)], args := [d1, d2, d3] }
  | _ => none }
def pixelCutsRow : OpenClaim := { program := "ytlcbomjdbdgbmaa", sum := "1845fe614c8c3e4be5c947863650843cf0a506fff7bc792e5ecaa45785bad80e", func := "groma/gromalaw15.PixelCuts", spec := "pixelCuts", inPlace := ["math/bits.Add64"], apart := false }
def PixelCutsSaid : Prop := pixelCutsRow.holds Try.pinned (OpenSpec.ofChange pixelCutsSpec)

/-- ITS FALSE NEIGHBOUR: 'it returns false'. Refute it at one input. -/
def pixelCutsWrong : ChangeSpec := { name := "pixelCuts", fn := fun _ => fun
  | [d1, d2, d3] => { results := [.lit (.bool false)], args := [d1, d2, d3] }
  | _ => none }
def PixelCutsWrongFalsely : Prop := pixelCutsRow.holds Try.pinned (OpenSpec.ofChange pixelCutsWrong)

/-- 'gromalaw15.PixelOf': WHATEVER THE INPUT: true; the input reads as it did. -/
def pixelOfSpec : ChangeSpec := { name := "pixelOf", fn := fun _ => fun
  | [d1, d2, d3] => { results := [.lit (.bool true)], args := [d1, d2, d3] }
  | _ => none }
def pixelOfRow : OpenClaim := { program := "ytlcbomjdbdgbmaa", sum := "1845fe614c8c3e4be5c947863650843cf0a506fff7bc792e5ecaa45785bad80e", func := "groma/gromalaw15.PixelOf", spec := "pixelOf", inPlace := ["math/bits.Add64"], apart := false }
def PixelOfSaid : Prop := pixelOfRow.holds Try.pinned (OpenSpec.ofChange pixelOfSpec)

/-- ITS FALSE NEIGHBOUR: 'it returns false'. Refute it at one input. -/
def pixelOfWrong : ChangeSpec := { name := "pixelOf", fn := fun _ => fun
  | [d1, d2, d3] => { results := [.lit (.bool false)], args := [d1, d2, d3] }
  | _ => none }
def PixelOfWrongFalsely : Prop := pixelOfRow.holds Try.pinned (OpenSpec.ofChange pixelOfWrong)

/-- 'gromalaw15.PixelAhead': WHATEVER THE INPUT: true; the input reads as it did. -/
def pixelAheadSpec : ChangeSpec := { name := "pixelAhead", fn := fun _ => fun
  | [d] => { results := [.lit (.bool true)], args := [d] }
  | _ => none }
def pixelAheadRow : OpenClaim := { program := "ytlcbomjdbdgbmaa", sum := "1845fe614c8c3e4be5c947863650843cf0a506fff7bc792e5ecaa45785bad80e", func := "groma/gromalaw15.PixelAhead", spec := "pixelAhead", inPlace := ["math/bits.Add64"], apart := false }
def PixelAheadSaid : Prop := pixelAheadRow.holds Try.pinned (OpenSpec.ofChange pixelAheadSpec)

/-- ITS FALSE NEIGHBOUR: 'it returns false'. Refute it at one input. -/
def pixelAheadWrong : ChangeSpec := { name := "pixelAhead", fn := fun _ => fun
  | [d] => { results := [.lit (.bool false)], args := [d] }
  | _ => none }
def PixelAheadWrongFalsely : Prop := pixelAheadRow.holds Try.pinned (OpenSpec.ofChange pixelAheadWrong)

/-- 'gromalaw15.PixelCentres': WHATEVER THE INPUT: true; the input reads as it did. -/
def pixelCentresSpec : ChangeSpec := { name := "pixelCentres", fn := fun _ => fun
  | [d1, d2] => { results := [.lit (.bool true)], args := [d1, d2] }
  | _ => none }
def pixelCentresRow : OpenClaim := { program := "ytlcbomjdbdgbmaa", sum := "1845fe614c8c3e4be5c947863650843cf0a506fff7bc792e5ecaa45785bad80e", func := "groma/gromalaw15.PixelCentres", spec := "pixelCentres", inPlace := ["math/bits.Add64"], apart := false }
def PixelCentresSaid : Prop := pixelCentresRow.holds Try.pinned (OpenSpec.ofChange pixelCentresSpec)

/-- ITS FALSE NEIGHBOUR: 'it returns false'. Refute it at one input. -/
def pixelCentresWrong : ChangeSpec := { name := "pixelCentres", fn := fun _ => fun
  | [d1, d2] => { results := [.lit (.bool false)], args := [d1, d2] }
  | _ => none }
def PixelCentresWrongFalsely : Prop := pixelCentresRow.holds Try.pinned (OpenSpec.ofChange pixelCentresWrong)

/-- 'gromalaw15.PixelBoxes': WHATEVER THE INPUT: true; the input reads as it did. -/
def pixelBoxesSpec : ChangeSpec := { name := "pixelBoxes", fn := fun _ => fun
  | [d1, d2, d3] => { results := [.lit (.bool true)], args := [d1, d2, d3] }
  | _ => none }
def pixelBoxesRow : OpenClaim := { program := "ytlcbomjdbdgbmaa", sum := "1845fe614c8c3e4be5c947863650843cf0a506fff7bc792e5ecaa45785bad80e", func := "groma/gromalaw15.PixelBoxes", spec := "pixelBoxes", inPlace := ["math/bits.Add64"], apart := false }
def PixelBoxesSaid : Prop := pixelBoxesRow.holds Try.pinned (OpenSpec.ofChange pixelBoxesSpec)

/-- ITS FALSE NEIGHBOUR: 'it returns false'. Refute it at one input. -/
def pixelBoxesWrong : ChangeSpec := { name := "pixelBoxes", fn := fun _ => fun
  | [d1, d2, d3] => { results := [.lit (.bool false)], args := [d1, d2, d3] }
  | _ => none }
def PixelBoxesWrongFalsely : Prop := pixelBoxesRow.holds Try.pinned (OpenSpec.ofChange pixelBoxesWrong)

/-- 'gromalaw04.CrossMeets': WHATEVER THE INPUT: true; the input reads as it did. -/
def crossMeetsSpec : ChangeSpec := { name := "crossMeets", fn := fun _ => fun
  | [d1, d2] => { results := [.lit (.bool true)], args := [d1, d2] }
  | _ => none }
def crossMeetsRow : OpenClaim := { program := "ytlcbomjdbdgbmaa", sum := "1845fe614c8c3e4be5c947863650843cf0a506fff7bc792e5ecaa45785bad80e", func := "groma/gromalaw04.CrossMeets", spec := "crossMeets", inPlace := ["math/bits.Add64"], apart := false }
def CrossMeetsSaid : Prop := crossMeetsRow.holds Try.pinned (OpenSpec.ofChange crossMeetsSpec)

/-- ITS FALSE NEIGHBOUR: 'it returns false'. Refute it at one input. -/
def crossMeetsWrong : ChangeSpec := { name := "crossMeets", fn := fun _ => fun
  | [d1, d2] => { results := [.lit (.bool false)], args := [d1, d2] }
  | _ => none }
def CrossMeetsWrongFalsely : Prop := crossMeetsRow.holds Try.pinned (OpenSpec.ofChange crossMeetsWrong)

/-- 'gromalaw04.CrossSpots': WHATEVER THE INPUT: true; the input reads as it did. -/
def crossSpotsSpec : ChangeSpec := { name := "crossSpots", fn := fun _ => fun
  | [d1, d2, d3] => { results := [.lit (.bool true)], args := [d1, d2, d3] }
  | _ => none }
def crossSpotsRow : OpenClaim := { program := "ytlcbomjdbdgbmaa", sum := "1845fe614c8c3e4be5c947863650843cf0a506fff7bc792e5ecaa45785bad80e", func := "groma/gromalaw04.CrossSpots", spec := "crossSpots", inPlace := ["math/bits.Add64"], apart := false }
def CrossSpotsSaid : Prop := crossSpotsRow.holds Try.pinned (OpenSpec.ofChange crossSpotsSpec)

/-- ITS FALSE NEIGHBOUR: 'it returns false'. Refute it at one input. -/
def crossSpotsWrong : ChangeSpec := { name := "crossSpots", fn := fun _ => fun
  | [d1, d2, d3] => { results := [.lit (.bool false)], args := [d1, d2, d3] }
  | _ => none }
def CrossSpotsWrongFalsely : Prop := crossSpotsRow.holds Try.pinned (OpenSpec.ofChange crossSpotsWrong)

/-- 'gromalaw04.CrossSlopes': WHATEVER THE INPUT: true; the input reads as it did. -/
def crossSlopesSpec : ChangeSpec := { name := "crossSlopes", fn := fun _ => fun
  | [d1, d2] => { results := [.lit (.bool true)], args := [d1, d2] }
  | _ => none }
def crossSlopesRow : OpenClaim := { program := "ytlcbomjdbdgbmaa", sum := "1845fe614c8c3e4be5c947863650843cf0a506fff7bc792e5ecaa45785bad80e", func := "groma/gromalaw04.CrossSlopes", spec := "crossSlopes", inPlace := ["math/bits.Add64"], apart := false }
def CrossSlopesSaid : Prop := crossSlopesRow.holds Try.pinned (OpenSpec.ofChange crossSlopesSpec)

/-- ITS FALSE NEIGHBOUR: 'it returns false'. Refute it at one input. -/
def crossSlopesWrong : ChangeSpec := { name := "crossSlopes", fn := fun _ => fun
  | [d1, d2] => { results := [.lit (.bool false)], args := [d1, d2] }
  | _ => none }
def CrossSlopesWrongFalsely : Prop := crossSlopesRow.holds Try.pinned (OpenSpec.ofChange crossSlopesWrong)

/-- 'gromalaw04.CrossAlong': WHATEVER THE INPUT: true; the input reads as it did. -/
def crossAlongSpec : ChangeSpec := { name := "crossAlong", fn := fun _ => fun
  | [d1, d2] => { results := [.lit (.bool true)], args := [d1, d2] }
  | _ => none }
def crossAlongRow : OpenClaim := { program := "ytlcbomjdbdgbmaa", sum := "1845fe614c8c3e4be5c947863650843cf0a506fff7bc792e5ecaa45785bad80e", func := "groma/gromalaw04.CrossAlong", spec := "crossAlong", inPlace := ["math/bits.Add64"], apart := false }
def CrossAlongSaid : Prop := crossAlongRow.holds Try.pinned (OpenSpec.ofChange crossAlongSpec)

/-- ITS FALSE NEIGHBOUR: 'it returns false'. Refute it at one input. -/
def crossAlongWrong : ChangeSpec := { name := "crossAlong", fn := fun _ => fun
  | [d1, d2] => { results := [.lit (.bool false)], args := [d1, d2] }
  | _ => none }
def CrossAlongWrongFalsely : Prop := crossAlongRow.holds Try.pinned (OpenSpec.ofChange crossAlongWrong)

/-- 'gromalaw04.CrossSides': WHATEVER THE INPUT: true; the input reads as it did. -/
def crossSidesSpec : ChangeSpec := { name := "crossSides", fn := fun _ => fun
  | [d1, d2] => { results := [.lit (.bool true)], args := [d1, d2] }
  | _ => none }
def crossSidesRow : OpenClaim := { program := "ytlcbomjdbdgbmaa", sum := "1845fe614c8c3e4be5c947863650843cf0a506fff7bc792e5ecaa45785bad80e", func := "groma/gromalaw04.CrossSides", spec := "crossSides", inPlace := ["math/bits.Add64"], apart := false }
def CrossSidesSaid : Prop := crossSidesRow.holds Try.pinned (OpenSpec.ofChange crossSidesSpec)

/-- ITS FALSE NEIGHBOUR: 'it returns false'. Refute it at one input. -/
def crossSidesWrong : ChangeSpec := { name := "crossSides", fn := fun _ => fun
  | [d1, d2] => { results := [.lit (.bool false)], args := [d1, d2] }
  | _ => none }
def CrossSidesWrongFalsely : Prop := crossSidesRow.holds Try.pinned (OpenSpec.ofChange crossSidesWrong)

/-- 'gromalaw03.PointHulls': WHATEVER THE INPUT: true; the input reads as it did. -/
def pointHullsSpec : ChangeSpec := { name := "pointHulls", fn := fun _ => fun
  | [d] => { results := [.lit (.bool true)], args := [d] }
  | _ => none }
def pointHullsRow : OpenClaim := { program := "ytlcbomjdbdgbmaa", sum := "1845fe614c8c3e4be5c947863650843cf0a506fff7bc792e5ecaa45785bad80e", func := "groma/gromalaw03.PointHulls", spec := "pointHulls", inPlace := ["math/bits.Add64"], unfollowed := true, recurses := true, apart := false }
def PointHullsSaid : Prop := pointHullsRow.holds Try.pinned (OpenSpec.ofChange pointHullsSpec)

/-- ITS FALSE NEIGHBOUR: 'it returns false'. Refute it at one input. -/
def pointHullsWrong : ChangeSpec := { name := "pointHulls", fn := fun _ => fun
  | [d] => { results := [.lit (.bool false)], args := [d] }
  | _ => none }
def PointHullsWrongFalsely : Prop := pointHullsRow.holds Try.pinned (OpenSpec.ofChange pointHullsWrong)

/- THE SECOND FORM. 'bulk': how many values and letters a reading holds, each counted each time it is reached (what is shared counts as often as it is met; a slice's spare places count too). A statement '..UptoSaid' is the law's where the arguments, and the package variables that the reading takes, are together of bulk at most 1048576: NARROWER than '..Said'. Prove '..Said' where nothing that the law and all that it calls make is longer than what came in: it says more and counts as full. Else prove '..UptoSaid'. A law counts once. -/
mutual
def uptoBulk {H : Type} : DataW H → Nat
  | .lit (.string bytes) => bytes.length + 1
  | .lit _ => 1
  | .nil => 1
  | .ptr d => uptoBulk d + 1
  | .slice elems spare => uptoBulkAll elems + uptoBulkAll spare + 1
  | .agg parts => uptoBulkAll parts + 1
  | .iface _ d => uptoBulk d + 1
  | .map entries => uptoBulkEntries entries + 1
  | .held _ => 1
def uptoBulkAll {H : Type} : List (DataW H) → Nat
  | [] => 0
  | d :: r => uptoBulk d + uptoBulkAll r
def uptoBulkEntries {H : Type} : List (Lit × DataW H) → Nat
  | [] => 0
  | x :: r => uptoBulkEntry x + uptoBulkEntries r
def uptoBulkEntry {H : Type} : Lit × DataW H → Nat
  | (.string bytes, d) => bytes.length + uptoBulk d + 1
  | (_, d) => uptoBulk d + 1
 end
def uptoSmall : (H : Type) → List (DataW H) → Bool := fun _ ds => decide (uptoBulkAll ds ≤ 1048576)
def OpenSpec.upto (s : _root_.Go.ChangeSpec) : _root_.Go.OpenSpec := { _root_.Go.OpenSpec.ofChange s with cond := some uptoSmall }

/-- 'gromalaw03.PointAreas', WHERE WHAT IT READS IS OF BULK AT MOST 1048576: true; the input reads as it did. -/
def pointAreasUptoRow : OpenClaim := { program := "ytlcbomjdbdgbmaa", sum := "1845fe614c8c3e4be5c947863650843cf0a506fff7bc792e5ecaa45785bad80e", func := "groma/gromalaw03.PointAreas", spec := "pointAreas", inPlace := ["math/bits.Add64"], apart := false, narrowed := true }
def PointAreasUptoSaid : Prop := pointAreasUptoRow.holds Try.pinned (OpenSpec.upto pointAreasSpec)

/-- 'gromalaw03.PointWinds', WHERE WHAT IT READS IS OF BULK AT MOST 1048576: true; the input reads as it did. -/
def pointWindsUptoRow : OpenClaim := { program := "ytlcbomjdbdgbmaa", sum := "1845fe614c8c3e4be5c947863650843cf0a506fff7bc792e5ecaa45785bad80e", func := "groma/gromalaw03.PointWinds", spec := "pointWinds", inPlace := ["math/bits.Add64"], apart := false, narrowed := true }
def PointWindsUptoSaid : Prop := pointWindsUptoRow.holds Try.pinned (OpenSpec.upto pointWindsSpec)

/-- 'gromalaw15.PixelCuts', WHERE WHAT IT READS IS OF BULK AT MOST 1048576: true; the input reads as it did. -/
def pixelCutsUptoRow : OpenClaim := { program := "ytlcbomjdbdgbmaa", sum := "1845fe614c8c3e4be5c947863650843cf0a506fff7bc792e5ecaa45785bad80e", func := "groma/gromalaw15.PixelCuts", spec := "pixelCuts", inPlace := ["math/bits.Add64"], apart := false, narrowed := true }
def PixelCutsUptoSaid : Prop := pixelCutsUptoRow.holds Try.pinned (OpenSpec.upto pixelCutsSpec)

/-- 'gromalaw15.PixelOf', WHERE WHAT IT READS IS OF BULK AT MOST 1048576: true; the input reads as it did. -/
def pixelOfUptoRow : OpenClaim := { program := "ytlcbomjdbdgbmaa", sum := "1845fe614c8c3e4be5c947863650843cf0a506fff7bc792e5ecaa45785bad80e", func := "groma/gromalaw15.PixelOf", spec := "pixelOf", inPlace := ["math/bits.Add64"], apart := false, narrowed := true }
def PixelOfUptoSaid : Prop := pixelOfUptoRow.holds Try.pinned (OpenSpec.upto pixelOfSpec)

/-- 'gromalaw15.PixelAhead', WHERE WHAT IT READS IS OF BULK AT MOST 1048576: true; the input reads as it did. -/
def pixelAheadUptoRow : OpenClaim := { program := "ytlcbomjdbdgbmaa", sum := "1845fe614c8c3e4be5c947863650843cf0a506fff7bc792e5ecaa45785bad80e", func := "groma/gromalaw15.PixelAhead", spec := "pixelAhead", inPlace := ["math/bits.Add64"], apart := false, narrowed := true }
def PixelAheadUptoSaid : Prop := pixelAheadUptoRow.holds Try.pinned (OpenSpec.upto pixelAheadSpec)

/-- 'gromalaw15.PixelCentres', WHERE WHAT IT READS IS OF BULK AT MOST 1048576: true; the input reads as it did. -/
def pixelCentresUptoRow : OpenClaim := { program := "ytlcbomjdbdgbmaa", sum := "1845fe614c8c3e4be5c947863650843cf0a506fff7bc792e5ecaa45785bad80e", func := "groma/gromalaw15.PixelCentres", spec := "pixelCentres", inPlace := ["math/bits.Add64"], apart := false, narrowed := true }
def PixelCentresUptoSaid : Prop := pixelCentresUptoRow.holds Try.pinned (OpenSpec.upto pixelCentresSpec)

/-- 'gromalaw15.PixelBoxes', WHERE WHAT IT READS IS OF BULK AT MOST 1048576: true; the input reads as it did. -/
def pixelBoxesUptoRow : OpenClaim := { program := "ytlcbomjdbdgbmaa", sum := "1845fe614c8c3e4be5c947863650843cf0a506fff7bc792e5ecaa45785bad80e", func := "groma/gromalaw15.PixelBoxes", spec := "pixelBoxes", inPlace := ["math/bits.Add64"], apart := false, narrowed := true }
def PixelBoxesUptoSaid : Prop := pixelBoxesUptoRow.holds Try.pinned (OpenSpec.upto pixelBoxesSpec)

/-- 'gromalaw04.CrossMeets', WHERE WHAT IT READS IS OF BULK AT MOST 1048576: true; the input reads as it did. -/
def crossMeetsUptoRow : OpenClaim := { program := "ytlcbomjdbdgbmaa", sum := "1845fe614c8c3e4be5c947863650843cf0a506fff7bc792e5ecaa45785bad80e", func := "groma/gromalaw04.CrossMeets", spec := "crossMeets", inPlace := ["math/bits.Add64"], apart := false, narrowed := true }
def CrossMeetsUptoSaid : Prop := crossMeetsUptoRow.holds Try.pinned (OpenSpec.upto crossMeetsSpec)

/-- 'gromalaw04.CrossSpots', WHERE WHAT IT READS IS OF BULK AT MOST 1048576: true; the input reads as it did. -/
def crossSpotsUptoRow : OpenClaim := { program := "ytlcbomjdbdgbmaa", sum := "1845fe614c8c3e4be5c947863650843cf0a506fff7bc792e5ecaa45785bad80e", func := "groma/gromalaw04.CrossSpots", spec := "crossSpots", inPlace := ["math/bits.Add64"], apart := false, narrowed := true }
def CrossSpotsUptoSaid : Prop := crossSpotsUptoRow.holds Try.pinned (OpenSpec.upto crossSpotsSpec)

/-- 'gromalaw04.CrossSlopes', WHERE WHAT IT READS IS OF BULK AT MOST 1048576: true; the input reads as it did. -/
def crossSlopesUptoRow : OpenClaim := { program := "ytlcbomjdbdgbmaa", sum := "1845fe614c8c3e4be5c947863650843cf0a506fff7bc792e5ecaa45785bad80e", func := "groma/gromalaw04.CrossSlopes", spec := "crossSlopes", inPlace := ["math/bits.Add64"], apart := false, narrowed := true }
def CrossSlopesUptoSaid : Prop := crossSlopesUptoRow.holds Try.pinned (OpenSpec.upto crossSlopesSpec)

/-- 'gromalaw04.CrossAlong', WHERE WHAT IT READS IS OF BULK AT MOST 1048576: true; the input reads as it did. -/
def crossAlongUptoRow : OpenClaim := { program := "ytlcbomjdbdgbmaa", sum := "1845fe614c8c3e4be5c947863650843cf0a506fff7bc792e5ecaa45785bad80e", func := "groma/gromalaw04.CrossAlong", spec := "crossAlong", inPlace := ["math/bits.Add64"], apart := false, narrowed := true }
def CrossAlongUptoSaid : Prop := crossAlongUptoRow.holds Try.pinned (OpenSpec.upto crossAlongSpec)

/-- 'gromalaw04.CrossSides', WHERE WHAT IT READS IS OF BULK AT MOST 1048576: true; the input reads as it did. -/
def crossSidesUptoRow : OpenClaim := { program := "ytlcbomjdbdgbmaa", sum := "1845fe614c8c3e4be5c947863650843cf0a506fff7bc792e5ecaa45785bad80e", func := "groma/gromalaw04.CrossSides", spec := "crossSides", inPlace := ["math/bits.Add64"], apart := false, narrowed := true }
def CrossSidesUptoSaid : Prop := crossSidesUptoRow.holds Try.pinned (OpenSpec.upto crossSidesSpec)

/-- 'gromalaw03.PointHulls', WHERE WHAT IT READS IS OF BULK AT MOST 1048576: true; the input reads as it did. -/
def pointHullsUptoRow : OpenClaim := { program := "ytlcbomjdbdgbmaa", sum := "1845fe614c8c3e4be5c947863650843cf0a506fff7bc792e5ecaa45785bad80e", func := "groma/gromalaw03.PointHulls", spec := "pointHulls", inPlace := ["math/bits.Add64"], unfollowed := true, recurses := true, apart := false, narrowed := true }
def PointHullsUptoSaid : Prop := pointHullsUptoRow.holds Try.pinned (OpenSpec.upto pointHullsSpec)

end Rows
end Go.Proofs.Ytlcbomjdbdgbmaa
