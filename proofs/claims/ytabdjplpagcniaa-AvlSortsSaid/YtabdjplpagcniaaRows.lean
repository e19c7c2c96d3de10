/-
  No cell of these rows narrows 'for every input' (looked for: loops, veiled, ifaces, maps, wideKeys, modest, calm, conditions, laid).
  DERIVED. THE GIVEN ROWS OF THIS SEAT. 5 by the template 'for every input the law returns true; each argument reads behind the call as it read before'; 0 by the template 'total and deterministic' (their statements: YtabdjplpagcniaaTotals.lean).
  GIVEN WITH THE SEED: the statements are not yours to turn. If you find one false, say at which input.
  Laid BY PROGRAM, IN A SANDBOX (cutbox-rows.mjs): the forced cells as the released guide's own fill.sh prints them over the translation e8a66e9357dc99bf… (all of the seat's roots in one cut). By AI agents, Wed Nov 11 2026. No macro, syntax, notation, axiom, sorry.
-/
import Derived.Test.YtabdjplpagcniaaChecked
import GoSem.Claim
import GoSem.ClaimJoined
import GoSem.ClaimMapViews
import Derived.JoinedTies
import Derived.KernelRfl
namespace Go.Proofs.Ytabdjplpagcniaa
/- THE CELL 'sum', in the pinned program and in every row, IS THE sha256 OF THE DUMP (.gsa) THAT YtabdjplpagcniaaProg.lean LOADS. Nothing in Lean hashes anything: it is a label: what it is worth is what the hold of that sum in a sandbox is worth. -/
noncomputable def Try.pinned : Pinned := { name := "ytabdjplpagcniaa", sum := "e8a66e9357dc99bff8cd3296cfeb01d091b585b13306b4e1a3b71bdea12f5d64", checked := Try.checked }
namespace Rows
def none {H : Type} : Left H := { results := [], args := [] }

/-- 'gromalaw05.AvlDeep': WHATEVER THE INPUT: true; the input reads as it did. -/
def avlDeepSpec : ChangeSpec := { name := "avlDeep", fn := fun _ => fun
  | [d] => { results := [.lit (.bool true)], args := [d] }
  | _ => none }
def avlDeepRow : OpenClaim := { program := "ytabdjplpagcniaa", sum := "e8a66e9357dc99bff8cd3296cfeb01d091b585b13306b4e1a3b71bdea12f5d64", func := "groma/gromalaw05.AvlDeep", spec := "avlDeep", unfollowed := true, recurses := true, apart := false }
def AvlDeepSaid : Prop := avlDeepRow.holds Try.pinned (OpenSpec.ofChange avlDeepSpec)

/-- ITS FALSE NEIGHBOUR: 'it returns false'. Refute it at one input. -/
def avlDeepWrong : ChangeSpec := { name := "avlDeep", fn := fun _ => fun
  | [d] => { results := [.lit (.bool false)], args := [d] }
  | _ => none }
def AvlDeepWrongFalsely : Prop := avlDeepRow.holds Try.pinned (OpenSpec.ofChange avlDeepWrong)

/-- 'gromalaw05.AvlTells': WHATEVER THE INPUT: true; the input reads as it did. -/
def avlTellsSpec : ChangeSpec := { name := "avlTells", fn := fun _ => fun
  | [d1, d2] => { results := [.lit (.bool true)], args := [d1, d2] }
  | _ => none }
def avlTellsRow : OpenClaim := { program := "ytabdjplpagcniaa", sum := "e8a66e9357dc99bff8cd3296cfeb01d091b585b13306b4e1a3b71bdea12f5d64", func := "groma/gromalaw05.AvlTells", spec := "avlTells", unfollowed := true, recurses := true, apart := false }
def AvlTellsSaid : Prop := avlTellsRow.holds Try.pinned (OpenSpec.ofChange avlTellsSpec)

/-- ITS FALSE NEIGHBOUR: 'it returns false'. Refute it at one input. -/
def avlTellsWrong : ChangeSpec := { name := "avlTells", fn := fun _ => fun
  | [d1, d2] => { results := [.lit (.bool false)], args := [d1, d2] }
  | _ => none }
def AvlTellsWrongFalsely : Prop := avlTellsRow.holds Try.pinned (OpenSpec.ofChange avlTellsWrong)

/-- 'gromalaw05.AvlSorts': WHATEVER THE INPUT: true; the input reads as it did. -/
def avlSortsSpec : ChangeSpec := { name := "avlSorts", fn := fun _ => fun
  | [d1, d2] => { results := [.lit (.bool true)], args := [d1, d2] }
  | _ => none }
def avlSortsRow : OpenClaim := { program := "ytabdjplpagcniaa", sum := "e8a66e9357dc99bff8cd3296cfeb01d091b585b13306b4e1a3b71bdea12f5d64", func := "groma/gromalaw05.AvlSorts", spec := "avlSorts", unfollowed := true, recurses := true, apart := false }
def AvlSortsSaid : Prop := avlSortsRow.holds Try.pinned (OpenSpec.ofChange avlSortsSpec)

/-- ITS FALSE NEIGHBOUR: 'it returns false'. Refute it at one input. -/
def avlSortsWrong : ChangeSpec := { name := "avlSorts", fn := fun _ => fun
  | [d1, d2] => { results := [.lit (.bool false)], args := [d1, d2] }
  | _ => none }
def AvlSortsWrongFalsely : Prop := avlSortsRow.holds Try.pinned (OpenSpec.ofChange avlSortsWrong)

/-- 'gromalaw05.AvlNear': WHATEVER THE INPUT: true; the input reads as it did. -/
def avlNearSpec : ChangeSpec := { name := "avlNear", fn := fun _ => fun
  | [d1, d2] => { results := [.lit (.bool true)], args := [d1, d2] }
  | _ => none }
def avlNearRow : OpenClaim := { program := "ytabdjplpagcniaa", sum := "e8a66e9357dc99bff8cd3296cfeb01d091b585b13306b4e1a3b71bdea12f5d64", func := "groma/gromalaw05.AvlNear", spec := "avlNear", unfollowed := true, recurses := true, apart := false }
def AvlNearSaid : Prop := avlNearRow.holds Try.pinned (OpenSpec.ofChange avlNearSpec)

/-- ITS FALSE NEIGHBOUR: 'it returns false'. Refute it at one input. -/
def avlNearWrong : ChangeSpec := { name := "avlNear", fn := fun _ => fun
  | [d1, d2] => { results := [.lit (.bool false)], args := [d1, d2] }
  | _ => none }
def AvlNearWrongFalsely : Prop := avlNearRow.holds Try.pinned (OpenSpec.ofChange avlNearWrong)

/-- 'gromalaw05.AvlPlays': WHATEVER THE INPUT: true; the input reads as it did. -/
def avlPlaysSpec : ChangeSpec := { name := "avlPlays", fn := fun _ => fun
  | [d] => { results := [.lit (.bool true)], args := [d] }
  | _ => none }
def avlPlaysRow : OpenClaim := { program := "ytabdjplpagcniaa", sum := "e8a66e9357dc99bff8cd3296cfeb01d091b585b13306b4e1a3b71bdea12f5d64", func := "groma/gromalaw05.AvlPlays", spec := "avlPlays", unfollowed := true, recurses := true, apart := false }
def AvlPlaysSaid : Prop := avlPlaysRow.holds Try.pinned (OpenSpec.ofChange avlPlaysSpec)

/-- ITS FALSE NEIGHBOUR: 'it returns false'. Refute it at one input. -/
def avlPlaysWrong : ChangeSpec := { name := "avlPlays", fn := fun _ => fun
  | [d] => { results := [.lit (.bool false)], args := [d] }
  | _ => none }
def AvlPlaysWrongFalsely : Prop := avlPlaysRow.holds Try.pinned (OpenSpec.ofChange avlPlaysWrong)

/- THE SECOND FORM. 'bulk': how many values and letters a reading holds, each counted each time it is reached (what is shared counts as often as it is met; a slice's spare places count too). A statement '..UptoSaid' is the law's where the arguments, and the package variables that the reading takes, are together of bulk at most 1048576: NARROWER than '..Said'. Prove '..Said' where nothing that the law and all that it calls make is longer than what came in: it says more and counts as full. Else prove '..UptoSaid'. A law counts once. -/
mutual
def uptoBulk {H : Type} : DataW H → Nat
  | .lit (.string bytes) => bytes.length + 1
  | .lit _ => 1
  | .nil => 1
  | .ptr d => uptoBulk d + 1
  | .slice elems spare => uptoBulkAll elems + uptoBulkAll spare + 1
  | .agg parts => uptoBulkAll parts + 1
  | .iface _ d => uptoBulk d + 1
  | .map entries => uptoBulkEntries entries + 1
  | .held _ => 1
def uptoBulkAll {H : Type} : List (DataW H) → Nat
  | [] => 0
  | d :: r => uptoBulk d + uptoBulkAll r
def uptoBulkEntries {H : Type} : List (Lit × DataW H) → Nat
  | [] => 0
  | x :: r => uptoBulkEntry x + uptoBulkEntries r
def uptoBulkEntry {H : Type} : Lit × DataW H → Nat
  | (.string bytes, d) => bytes.length + uptoBulk d + 1
  | (_, d) => uptoBulk d + 1
 end
def uptoSmall : (H : Type) → List (DataW H) → Bool := fun _ ds => decide (uptoBulkAll ds ≤ 1048576)
def OpenSpec.upto (s : _root_.Go.ChangeSpec) : _root_.Go.OpenSpec := { _root_.Go.OpenSpec.ofChange s with cond := some uptoSmall }

/-- 'gromalaw05.AvlDeep', WHERE WHAT IT READS IS OF BULK AT MOST 1048576: true; the input reads as it did. -/
def avlDeepUptoRow : OpenClaim := { program := "ytabdjplpagcniaa", sum := "e8a66e9357dc99bff8cd3296cfeb01d091b585b13306b4e1a3b71bdea12f5d64", func := "groma/gromalaw05.AvlDeep", spec := "avlDeep", unfollowed := true, recurses := true, apart := false, narrowed := true }
def AvlDeepUptoSaid : Prop := avlDeepUptoRow.holds Try.pinned (OpenSpec.upto avlDeepSpec)

/-- 'gromalaw05.AvlTells', WHERE WHAT IT READS IS OF BULK AT MOST 1048576: true; the input reads as it did. -/
def avlTellsUptoRow : OpenClaim := { program := "ytabdjplpagcniaa", sum := "e8a66e9357dc99bff8cd3296cfeb01d091b585b13306b4e1a3b71bdea12f5d64", func := "groma/gromalaw05.AvlTells", spec := "avlTells", unfollowed := true, recurses := true, apart := false, narrowed := true }
def AvlTellsUptoSaid : Prop := avlTellsUptoRow.holds Try.pinned (OpenSpec.upto avlTellsSpec)

/-- 'gromalaw05.AvlSorts', WHERE WHAT IT READS IS OF BULK AT MOST 1048576: true; the input reads as it did. -/
def avlSortsUptoRow : OpenClaim := { program := "ytabdjplpagcniaa", sum := "e8a66e9357dc99bff8cd3296cfeb01d091b585b13306b4e1a3b71bdea12f5d64", func := "groma/gromalaw05.AvlSorts", spec := "avlSorts", unfollowed := true, recurses := true, apart := false, narrowed := true }
def AvlSortsUptoSaid : Prop := avlSortsUptoRow.holds Try.pinned (OpenSpec.upto avlSortsSpec)

/-- 'gromalaw05.AvlNear', WHERE WHAT IT READS IS OF BULK AT MOST 1048576: true; the input reads as it did. -/
def avlNearUptoRow : OpenClaim := { program := "ytabdjplpagcniaa", sum := "e8a66e9357dc99bff8cd3296cfeb01d091b585b13306b4e1a3b71bdea12f5d64", func := "groma/gromalaw05.AvlNear", spec := "avlNear", unfollowed := true, recurses := true, apart := false, narrowed := true }
def AvlNearUptoSaid : Prop := avlNearUptoRow.holds Try.pinned (OpenSpec.upto avlNearSpec)

/-- 'gromalaw05.AvlPlays', WHERE WHAT IT READS IS OF BULK AT MOST 1048576: true; the input reads as it did. -/
def avlPlaysUptoRow : OpenClaim := { program := "ytabdjplpagcniaa", sum := "e8a66e9357dc99bff8cd3296cfeb01d091b585b13306b4e1a3b71bdea12f5d64", func := "groma/gromalaw05.AvlPlays", spec := "avlPlays", unfollowed := true, recurses := true, apart := false, narrowed := true }
def AvlPlaysUptoSaid : Prop := avlPlaysUptoRow.holds Try.pinned (OpenSpec.upto avlPlaysSpec)

end Rows
end Go.Proofs.Ytabdjplpagcniaa
