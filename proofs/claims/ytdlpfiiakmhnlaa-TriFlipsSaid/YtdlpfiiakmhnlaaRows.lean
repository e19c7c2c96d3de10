/-
  No cell of these rows narrows 'for every input' (looked for: loops, veiled, ifaces, maps, wideKeys, modest, calm, conditions, laid).
  DERIVED. THE GIVEN ROWS OF THIS SEAT. 7 by the template 'for every input the law returns true; each argument reads behind the call as it read before'; 0 by the template 'total and deterministic' (their statements: YtdlpfiiakmhnlaaTotals.lean).
  GIVEN WITH THE SEED: the statements are not yours to turn. If you find one false, say at which input.
  Laid BY PROGRAM, IN A SANDBOX (cutbox-rows.mjs): the forced cells as the released guide's own fill.sh prints them over the translation 813673bfb6c4394a… (all of the seat's roots in one cut). By AI agents, Wed Nov 11 2026. No macro, syntax, notation, axiom, sorry.
-/
import Derived.Test.YtdlpfiiakmhnlaaChecked
import GoSem.Claim
import GoSem.ClaimJoined
import GoSem.ClaimMapViews
import Derived.JoinedTies
import Derived.KernelRfl
namespace Go.Proofs.Ytdlpfiiakmhnlaa
/- THE CELL 'sum', in the pinned program and in every row, IS THE sha256 OF THE DUMP (.gsa) THAT YtdlpfiiakmhnlaaProg.lean LOADS. Nothing in Lean hashes anything: it is a label: what it is worth is what the hold of that sum in a sandbox is worth. -/
noncomputable def Try.pinned : Pinned := { name := "ytdlpfiiakmhnlaa", sum := "813673bfb6c4394a1d98691ea3f6b63a3db222ece35cd31bf6d2518e0b475402", checked := Try.checked }
namespace Rows
def none {H : Type} : Left H := { results := [], args := [] }

/-- 'gromalaw20.TriHulls': WHATEVER THE INPUT: true; the input reads as it did. -/
def triHullsSpec : ChangeSpec := { name := "triHulls", fn := fun _ => fun
  | [d] => { results := [.lit (.bool true)], args := [d] }
  | _ => none }
def triHullsRow : OpenClaim := { program := "ytdlpfiiakmhnlaa", sum := "813673bfb6c4394a1d98691ea3f6b63a3db222ece35cd31bf6d2518e0b475402", func := "groma/gromalaw20.TriHulls", spec := "triHulls", inPlace := ["math/bits.Add64", "slices.overlaps[groma/tri.half]"], unfollowed := true, recurses := true, apart := false }
def TriHullsSaid : Prop := triHullsRow.holds Try.pinned (OpenSpec.ofChange triHullsSpec)

/-- ITS FALSE NEIGHBOUR: 'it returns false'. Refute it at one input. -/
def triHullsWrong : ChangeSpec := { name := "triHulls", fn := fun _ => fun
  | [d] => { results := [.lit (.bool false)], args := [d] }
  | _ => none }
def TriHullsWrongFalsely : Prop := triHullsRow.holds Try.pinned (OpenSpec.ofChange triHullsWrong)

/-- 'gromalaw20.TriBeside': WHATEVER THE INPUT: true; the input reads as it did. -/
def triBesideSpec : ChangeSpec := { name := "triBeside", fn := fun _ => fun
  | [d1, d2] => { results := [.lit (.bool true)], args := [d1, d2] }
  | _ => none }
def triBesideRow : OpenClaim := { program := "ytdlpfiiakmhnlaa", sum := "813673bfb6c4394a1d98691ea3f6b63a3db222ece35cd31bf6d2518e0b475402", func := "groma/gromalaw20.TriBeside", spec := "triBeside", inPlace := ["math/bits.Add64", "slices.overlaps[groma/tri.half]"], unfollowed := true, recurses := true, apart := false }
def TriBesideSaid : Prop := triBesideRow.holds Try.pinned (OpenSpec.ofChange triBesideSpec)

/-- ITS FALSE NEIGHBOUR: 'it returns false'. Refute it at one input. -/
def triBesideWrong : ChangeSpec := { name := "triBeside", fn := fun _ => fun
  | [d1, d2] => { results := [.lit (.bool false)], args := [d1, d2] }
  | _ => none }
def TriBesideWrongFalsely : Prop := triBesideRow.holds Try.pinned (OpenSpec.ofChange triBesideWrong)

/-- 'gromalaw20.TriFinds': WHATEVER THE INPUT: true; the input reads as it did. -/
def triFindsSpec : ChangeSpec := { name := "triFinds", fn := fun _ => fun
  | [d1, d2] => { results := [.lit (.bool true)], args := [d1, d2] }
  | _ => none }
def triFindsRow : OpenClaim := { program := "ytdlpfiiakmhnlaa", sum := "813673bfb6c4394a1d98691ea3f6b63a3db222ece35cd31bf6d2518e0b475402", func := "groma/gromalaw20.TriFinds", spec := "triFinds", inPlace := ["math/bits.Add64", "slices.overlaps[groma/tri.half]"], unfollowed := true, recurses := true, apart := false }
def TriFindsSaid : Prop := triFindsRow.holds Try.pinned (OpenSpec.ofChange triFindsSpec)

/-- ITS FALSE NEIGHBOUR: 'it returns false'. Refute it at one input. -/
def triFindsWrong : ChangeSpec := { name := "triFinds", fn := fun _ => fun
  | [d1, d2] => { results := [.lit (.bool false)], args := [d1, d2] }
  | _ => none }
def TriFindsWrongFalsely : Prop := triFindsRow.holds Try.pinned (OpenSpec.ofChange triFindsWrong)

/-- 'gromalaw20.TriBuilds': WHATEVER THE INPUT: true; the input reads as it did. -/
def triBuildsSpec : ChangeSpec := { name := "triBuilds", fn := fun _ => fun
  | [d] => { results := [.lit (.bool true)], args := [d] }
  | _ => none }
def triBuildsRow : OpenClaim := { program := "ytdlpfiiakmhnlaa", sum := "813673bfb6c4394a1d98691ea3f6b63a3db222ece35cd31bf6d2518e0b475402", func := "groma/gromalaw20.TriBuilds", spec := "triBuilds", inPlace := ["math/bits.Add64", "slices.overlaps[groma/tri.half]"], unfollowed := true, recurses := true, apart := false }
def TriBuildsSaid : Prop := triBuildsRow.holds Try.pinned (OpenSpec.ofChange triBuildsSpec)

/-- ITS FALSE NEIGHBOUR: 'it returns false'. Refute it at one input. -/
def triBuildsWrong : ChangeSpec := { name := "triBuilds", fn := fun _ => fun
  | [d] => { results := [.lit (.bool false)], args := [d] }
  | _ => none }
def TriBuildsWrongFalsely : Prop := triBuildsRow.holds Try.pinned (OpenSpec.ofChange triBuildsWrong)

/-- 'gromalaw20.TriTells': WHATEVER THE INPUT: true; the input reads as it did. -/
def triTellsSpec : ChangeSpec := { name := "triTells", fn := fun _ => fun
  | [d1, d2, d3] => { results := [.lit (.bool true)], args := [d1, d2, d3] }
  | _ => none }
def triTellsRow : OpenClaim := { program := "ytdlpfiiakmhnlaa", sum := "813673bfb6c4394a1d98691ea3f6b63a3db222ece35cd31bf6d2518e0b475402", func := "groma/gromalaw20.TriTells", spec := "triTells", inPlace := ["math/bits.Add64", "slices.overlaps[groma/tri.half]"], unfollowed := true, recurses := true, apart := false }
def TriTellsSaid : Prop := triTellsRow.holds Try.pinned (OpenSpec.ofChange triTellsSpec)

/-- ITS FALSE NEIGHBOUR: 'it returns false'. Refute it at one input. -/
def triTellsWrong : ChangeSpec := { name := "triTells", fn := fun _ => fun
  | [d1, d2, d3] => { results := [.lit (.bool false)], args := [d1, d2, d3] }
  | _ => none }
def TriTellsWrongFalsely : Prop := triTellsRow.holds Try.pinned (OpenSpec.ofChange triTellsWrong)

/-- 'gromalaw20.TriPlays': WHATEVER THE INPUT: true; the input reads as it did. -/
def triPlaysSpec : ChangeSpec := { name := "triPlays", fn := fun _ => fun
  | [d1, d2] => { results := [.lit (.bool true)], args := [d1, d2] }
  | _ => none }
def triPlaysRow : OpenClaim := { program := "ytdlpfiiakmhnlaa", sum := "813673bfb6c4394a1d98691ea3f6b63a3db222ece35cd31bf6d2518e0b475402", func := "groma/gromalaw20.TriPlays", spec := "triPlays", inPlace := ["math/bits.Add64", "slices.overlaps[groma/tri.half]"], unfollowed := true, recurses := true, apart := false }
def TriPlaysSaid : Prop := triPlaysRow.holds Try.pinned (OpenSpec.ofChange triPlaysSpec)

/-- ITS FALSE NEIGHBOUR: 'it returns false'. Refute it at one input. -/
def triPlaysWrong : ChangeSpec := { name := "triPlays", fn := fun _ => fun
  | [d1, d2] => { results := [.lit (.bool false)], args := [d1, d2] }
  | _ => none }
def TriPlaysWrongFalsely : Prop := triPlaysRow.holds Try.pinned (OpenSpec.ofChange triPlaysWrong)

/-- 'gromalaw20.TriFlips': WHATEVER THE INPUT: true; the input reads as it did. -/
def triFlipsSpec : ChangeSpec := { name := "triFlips", fn := fun _ => fun
  | [d1, d2] => { results := [.lit (.bool true)], args := [d1, d2] }
  | _ => none }
def triFlipsRow : OpenClaim := { program := "ytdlpfiiakmhnlaa", sum := "813673bfb6c4394a1d98691ea3f6b63a3db222ece35cd31bf6d2518e0b475402", func := "groma/gromalaw20.TriFlips", spec := "triFlips", inPlace := ["math/bits.Add64", "slices.overlaps[groma/tri.half]"], unfollowed := true, recurses := true, apart := false }
def TriFlipsSaid : Prop := triFlipsRow.holds Try.pinned (OpenSpec.ofChange triFlipsSpec)

/-- ITS FALSE NEIGHBOUR: 'it returns false'. Refute it at one input. -/
def triFlipsWrong : ChangeSpec := { name := "triFlips", fn := fun _ => fun
  | [d1, d2] => { results := [.lit (.bool false)], args := [d1, d2] }
  | _ => none }
def TriFlipsWrongFalsely : Prop := triFlipsRow.holds Try.pinned (OpenSpec.ofChange triFlipsWrong)

/- THE SECOND FORM. 'bulk': how many values and letters a reading holds, each counted each time it is reached (what is shared counts as often as it is met; a slice's spare places count too). A statement '..UptoSaid' is the law's where the arguments, and the package variables that the reading takes, are together of bulk at most 1048576: NARROWER than '..Said'. Prove '..Said' where nothing that the law and all that it calls make is longer than what came in: it says more and counts as full. Else prove '..UptoSaid'. A law counts once. -/
mutual
def uptoBulk {H : Type} : DataW H → Nat
  | .lit (.string bytes) => bytes.length + 1
  | .lit _ => 1
  | .nil => 1
  | .ptr d => uptoBulk d + 1
  | .slice elems spare => uptoBulkAll elems + uptoBulkAll spare + 1
  | .agg parts => uptoBulkAll parts + 1
  | .iface _ d => uptoBulk d + 1
  | .map entries => uptoBulkEntries entries + 1
  | .held _ => 1
def uptoBulkAll {H : Type} : List (DataW H) → Nat
  | [] => 0
  | d :: r => uptoBulk d + uptoBulkAll r
def uptoBulkEntries {H : Type} : List (Lit × DataW H) → Nat
  | [] => 0
  | x :: r => uptoBulkEntry x + uptoBulkEntries r
def uptoBulkEntry {H : Type} : Lit × DataW H → Nat
  | (.string bytes, d) => bytes.length + uptoBulk d + 1
  | (_, d) => uptoBulk d + 1
 end
def uptoSmall : (H : Type) → List (DataW H) → Bool := fun _ ds => decide (uptoBulkAll ds ≤ 1048576)
def OpenSpec.upto (s : _root_.Go.ChangeSpec) : _root_.Go.OpenSpec := { _root_.Go.OpenSpec.ofChange s with cond := some uptoSmall }

/-- 'gromalaw20.TriHulls', WHERE WHAT IT READS IS OF BULK AT MOST 1048576: true; the input reads as it did. -/
def triHullsUptoRow : OpenClaim := { program := "ytdlpfiiakmhnlaa", sum := "813673bfb6c4394a1d98691ea3f6b63a3db222ece35cd31bf6d2518e0b475402", func := "groma/gromalaw20.TriHulls", spec := "triHulls", inPlace := ["math/bits.Add64", "slices.overlaps[groma/tri.half]"], unfollowed := true, recurses := true, apart := false, narrowed := true }
def TriHullsUptoSaid : Prop := triHullsUptoRow.holds Try.pinned (OpenSpec.upto triHullsSpec)

/-- 'gromalaw20.TriBeside', WHERE WHAT IT READS IS OF BULK AT MOST 1048576: true; the input reads as it did. -/
def triBesideUptoRow : OpenClaim := { program := "ytdlpfiiakmhnlaa", sum := "813673bfb6c4394a1d98691ea3f6b63a3db222ece35cd31bf6d2518e0b475402", func := "groma/gromalaw20.TriBeside", spec := "triBeside", inPlace := ["math/bits.Add64", "slices.overlaps[groma/tri.half]"], unfollowed := true, recurses := true, apart := false, narrowed := true }
def TriBesideUptoSaid : Prop := triBesideUptoRow.holds Try.pinned (OpenSpec.upto triBesideSpec)

/-- 'gromalaw20.TriFinds', WHERE WHAT IT READS IS OF BULK AT MOST 1048576: true; the input reads as it did. -/
def triFindsUptoRow : OpenClaim := { program := "ytdlpfiiakmhnlaa", sum := "813673bfb6c4394a1d98691ea3f6b63a3db222ece35cd31bf6d2518e0b475402", func := "groma/gromalaw20.TriFinds", spec := "triFinds", inPlace := ["math/bits.Add64", "slices.overlaps[groma/tri.half]"], unfollowed := true, recurses := true, apart := false, narrowed := true }
def TriFindsUptoSaid : Prop := triFindsUptoRow.holds Try.pinned (OpenSpec.upto triFindsSpec)

/-- 'gromalaw20.TriBuilds', WHERE WHAT IT READS IS OF BULK AT MOST 1048576: true; the input reads as it did. -/
def triBuildsUptoRow : OpenClaim := { program := "ytdlpfiiakmhnlaa", sum := "813673bfb6c4394a1d98691ea3f6b63a3db222ece35cd31bf6d2518e0b475402", func := "groma/gromalaw20.TriBuilds", spec := "triBuilds", inPlace := ["math/bits.Add64", "slices.overlaps[groma/tri.half]"], unfollowed := true, recurses := true, apart := false, narrowed := true }
def TriBuildsUptoSaid : Prop := triBuildsUptoRow.holds Try.pinned (OpenSpec.upto triBuildsSpec)

/-- 'gromalaw20.TriTells', WHERE WHAT IT READS IS OF BULK AT MOST 1048576: true; the input reads as it did. -/
def triTellsUptoRow : OpenClaim := { program := "ytdlpfiiakmhnlaa", sum := "813673bfb6c4394a1d98691ea3f6b63a3db222ece35cd31bf6d2518e0b475402", func := "groma/gromalaw20.TriTells", spec := "triTells", inPlace := ["math/bits.Add64", "slices.overlaps[groma/tri.half]"], unfollowed := true, recurses := true, apart := false, narrowed := true }
def TriTellsUptoSaid : Prop := triTellsUptoRow.holds Try.pinned (OpenSpec.upto triTellsSpec)

/-- 'gromalaw20.TriPlays', WHERE WHAT IT READS IS OF BULK AT MOST 1048576: true; the input reads as it did. -/
def triPlaysUptoRow : OpenClaim := { program := "ytdlpfiiakmhnlaa", sum := "813673bfb6c4394a1d98691ea3f6b63a3db222ece35cd31bf6d2518e0b475402", func := "groma/gromalaw20.TriPlays", spec := "triPlays", inPlace := ["math/bits.Add64", "slices.overlaps[groma/tri.half]"], unfollowed := true, recurses := true, apart := false, narrowed := true }
def TriPlaysUptoSaid : Prop := triPlaysUptoRow.holds Try.pinned (OpenSpec.upto triPlaysSpec)

/-- 'gromalaw20.TriFlips', WHERE WHAT IT READS IS OF BULK AT MOST 1048576: true; the input reads as it did. -/
def triFlipsUptoRow : OpenClaim := { program := "ytdlpfiiakmhnlaa", sum := "813673bfb6c4394a1d98691ea3f6b63a3db222ece35cd31bf6d2518e0b475402", func := "groma/gromalaw20.TriFlips", spec := "triFlips", inPlace := ["math/bits.Add64", "slices.overlaps[groma/tri.half]"], unfollowed := true, recurses := true, apart := false, narrowed := true }
def TriFlipsUptoSaid : Prop := triFlipsUptoRow.holds Try.pinned (OpenSpec.upto triFlipsSpec)

end Rows
end Go.Proofs.Ytdlpfiiakmhnlaa
