/-
  No cell of these rows narrows 'for every input' (looked for: loops, veiled, ifaces, maps, wideKeys, modest, calm, conditions, laid).
  DERIVED. THE GIVEN ROWS OF THIS SEAT. 3 by the template 'for every input the law returns true; each argument reads behind the call as it read before'; 0 by the template 'total and deterministic' (their statements: YtkaolhlmimalkaaTotals.lean).
  GIVEN WITH THE SEED: the statements are not yours to turn. If you find one false, say at which input.
  Laid BY PROGRAM, IN A SANDBOX (cutbox-rows.mjs): the forced cells as the released guide's own fill.sh prints them over the translation 95e6fb5e840c6be0… (all of the seat's roots in one cut). By AI agents, Wed Nov 11 2026. No macro, syntax, notation, axiom, sorry.
-/
import Derived.Test.YtkaolhlmimalkaaChecked
import GoSem.Claim
import GoSem.ClaimJoined
import GoSem.ClaimMapViews
import Derived.JoinedTies
import Derived.KernelRfl
namespace Go.Proofs.Ytkaolhlmimalkaa
/- THE CELL 'sum', in the pinned program and in every row, IS THE sha256 OF THE DUMP (.gsa) THAT YtkaolhlmimalkaaProg.lean LOADS. Nothing in Lean hashes anything: it is a label: what it is worth is what the hold of that sum in a sandbox is worth. -/
noncomputable def Try.pinned : Pinned := { name := "ytkaolhlmimalkaa", sum := "95e6fb5e840c6be0ce6ea9c3dfaa245ea12c8acd31c06346968b6dbda87b9fa1", checked := Try.checked }
namespace Rows
def none {H : Type} : Left H := { results := [], args := [] }

/-- 'gromalaw14.SweepEach': WHATEVER THE INPUT: true; the input reads as it did. -/
def sweepEachSpec : ChangeSpec := { name := "sweepEach", fn := fun _ => fun
  | [d1, d2, d3] => { results := [.lit (.bool true)], args := [d1, d2, d3] }
  | _ => none }
def sweepEachRow : OpenClaim := { program := "ytkaolhlmimalkaa", sum := "95e6fb5e840c6be0ce6ea9c3dfaa245ea12c8acd31c06346968b6dbda87b9fa1", func := "groma/gromalaw14.SweepEach", spec := "sweepEach", inPlace := ["math/bits.Add64"], unfollowed := true, recurses := true, apart := false }
def SweepEachSaid : Prop := sweepEachRow.holds Try.pinned (OpenSpec.ofChange sweepEachSpec)

/-- ITS FALSE NEIGHBOUR: 'it returns false'. Refute it at one input. -/
def sweepEachWrong : ChangeSpec := { name := "sweepEach", fn := fun _ => fun
  | [d1, d2, d3] => { results := [.lit (.bool false)], args := [d1, d2, d3] }
  | _ => none }
def SweepEachWrongFalsely : Prop := sweepEachRow.holds Try.pinned (OpenSpec.ofChange sweepEachWrong)

/-- 'gromalaw14.SweepTurned': WHATEVER THE INPUT: true; the input reads as it did. -/
def sweepTurnedSpec : ChangeSpec := { name := "sweepTurned", fn := fun _ => fun
  | [d1, d2] => { results := [.lit (.bool true)], args := [d1, d2] }
  | _ => none }
def sweepTurnedRow : OpenClaim := { program := "ytkaolhlmimalkaa", sum := "95e6fb5e840c6be0ce6ea9c3dfaa245ea12c8acd31c06346968b6dbda87b9fa1", func := "groma/gromalaw14.SweepTurned", spec := "sweepTurned", inPlace := ["math/bits.Add64"], unfollowed := true, recurses := true, apart := false }
def SweepTurnedSaid : Prop := sweepTurnedRow.holds Try.pinned (OpenSpec.ofChange sweepTurnedSpec)

/-- ITS FALSE NEIGHBOUR: 'it returns false'. Refute it at one input. -/
def sweepTurnedWrong : ChangeSpec := { name := "sweepTurned", fn := fun _ => fun
  | [d1, d2] => { results := [.lit (.bool false)], args := [d1, d2] }
  | _ => none }
def SweepTurnedWrongFalsely : Prop := sweepTurnedRow.holds Try.pinned (OpenSpec.ofChange sweepTurnedWrong)

/-- 'gromalaw14.SweepMany': WHATEVER THE INPUT: true; the input reads as it did. -/
def sweepManySpec : ChangeSpec := { name := "sweepMany", fn := fun _ => fun
  | [d] => { results := [.lit (.bool true)], args := [d] }
  | _ => none }
def sweepManyRow : OpenClaim := { program := "ytkaolhlmimalkaa", sum := "95e6fb5e840c6be0ce6ea9c3dfaa245ea12c8acd31c06346968b6dbda87b9fa1", func := "groma/gromalaw14.SweepMany", spec := "sweepMany", inPlace := ["math/bits.Add64"], unfollowed := true, recurses := true, apart := false }
def SweepManySaid : Prop := sweepManyRow.holds Try.pinned (OpenSpec.ofChange sweepManySpec)

/-- ITS FALSE NEIGHBOUR: 'it returns false'. Refute it at one input. -/
def sweepManyWrong : ChangeSpec := { name := "sweepMany", fn := fun _ => fun
  | [d] => { results := [.lit (.bool false)], args := [d] }
  | _ => none }
def SweepManyWrongFalsely : Prop := sweepManyRow.holds Try.pinned (OpenSpec.ofChange sweepManyWrong)

/- THE SECOND FORM. 'bulk': how many values and letters a reading holds, each counted each time it is reached (what is shared counts as often as it is met; a slice's spare places count too). A statement '..UptoSaid' is the law's where the arguments, and the package variables that the reading takes, are together of bulk at most 1048576: NARROWER than '..Said'. Prove '..Said' where nothing that the law and all that it calls make is longer than what came in: it says more and counts as full. Else prove '..UptoSaid'. A law counts once. -/
mutual
def uptoBulk {H : Type} : DataW H → Nat
  | .lit (.string bytes) => bytes.length + 1
  | .lit _ => 1
  | .nil => 1
  | .ptr d => uptoBulk d + 1
  | .slice elems spare => uptoBulkAll elems + uptoBulkAll spare + 1
  | .agg parts => uptoBulkAll parts + 1
  | .iface _ d => uptoBulk d + 1
  | .map entries => uptoBulkEntries entries + 1
  | .held _ => 1
def uptoBulkAll {H : Type} : List (DataW H) → Nat
  | [] => 0
  | d :: r => uptoBulk d + uptoBulkAll r
def uptoBulkEntries {H : Type} : List (Lit × DataW H) → Nat
  | [] => 0
  | x :: r => uptoBulkEntry x + uptoBulkEntries r
def uptoBulkEntry {H : Type} : Lit × DataW H → Nat
  | (.string bytes, d) => bytes.length + uptoBulk d + 1
  | (_, d) => uptoBulk d + 1
 end
def uptoSmall : (H : Type) → List (DataW H) → Bool := fun _ ds => decide (uptoBulkAll ds ≤ 1048576)
def OpenSpec.upto (s : _root_.Go.ChangeSpec) : _root_.Go.OpenSpec := { _root_.Go.OpenSpec.ofChange s with cond := some uptoSmall }

/-- 'gromalaw14.SweepEach', WHERE WHAT IT READS IS OF BULK AT MOST 1048576: true; the input reads as it did. -/
def sweepEachUptoRow : OpenClaim := { program := "ytkaolhlmimalkaa", sum := "95e6fb5e840c6be0ce6ea9c3dfaa245ea12c8acd31c06346968b6dbda87b9fa1", func := "groma/gromalaw14.SweepEach", spec := "sweepEach", inPlace := ["math/bits.Add64"], unfollowed := true, recurses := true, apart := false, narrowed := true }
def SweepEachUptoSaid : Prop := sweepEachUptoRow.holds Try.pinned (OpenSpec.upto sweepEachSpec)

/-- 'gromalaw14.SweepTurned', WHERE WHAT IT READS IS OF BULK AT MOST 1048576: true; the input reads as it did. -/
def sweepTurnedUptoRow : OpenClaim := { program := "ytkaolhlmimalkaa", sum := "95e6fb5e840c6be0ce6ea9c3dfaa245ea12c8acd31c06346968b6dbda87b9fa1", func := "groma/gromalaw14.SweepTurned", spec := "sweepTurned", inPlace := ["math/bits.Add64"], unfollowed := true, recurses := true, apart := false, narrowed := true }
def SweepTurnedUptoSaid : Prop := sweepTurnedUptoRow.holds Try.pinned (OpenSpec.upto sweepTurnedSpec)

/-- 'gromalaw14.SweepMany', WHERE WHAT IT READS IS OF BULK AT MOST 1048576: true; the input reads as it did. -/
def sweepManyUptoRow : OpenClaim := { program := "ytkaolhlmimalkaa", sum := "95e6fb5e840c6be0ce6ea9c3dfaa245ea12c8acd31c06346968b6dbda87b9fa1", func := "groma/gromalaw14.SweepMany", spec := "sweepMany", inPlace := ["math/bits.Add64"], unfollowed := true, recurses := true, apart := false, narrowed := true }
def SweepManyUptoSaid : Prop := sweepManyUptoRow.holds Try.pinned (OpenSpec.upto sweepManySpec)

end Rows
end Go.Proofs.Ytkaolhlmimalkaa
