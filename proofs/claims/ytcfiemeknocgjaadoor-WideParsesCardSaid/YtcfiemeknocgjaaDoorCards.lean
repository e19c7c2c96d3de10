/-
  DERIVED. GIVEN WITH THE SEED: THE CARDS: each row of YtcfiemeknocgjaaDoorRows.lean that lists a variable, with what it lists TIED to the program's text (the seventh form; the later family's looks); each row that meets fmt, with fmt's text TOLD by the authors' own Lean function (tested against real Go, not proved from fmt's source: count such statements apart). THE CARD IS WHAT COUNTS. Prove the row's statement (the work); the ties are given (YtcfiemeknocgjaaDoorTie.lean); close each card by the builder's one call (the guide's Derived/Test/ToyasCard.lean, 'card_holds'). Laid BY PROGRAM, IN A SANDBOX (cutbox-door.mjs). By AI agents, Wed Nov 11 2026. No macro, syntax, notation, axiom, sorry.
-/
import Derived.Test.YtcfiemeknocgjaaDoorRows
import GoSem.ClaimSeven
namespace Go.Proofs.YtcfiemeknocgjaaDoor
namespace Rows

/-- THE TIED CARD OF 'gromalaw01.WideCommon'. -/
def wideCommonCard : Claim7 := { stood := { row := wideCommonRow, standIns := [], harness := (true, "4ed2527afac2d7ec0dcbcf78eea59b09af1b3151fa01c10099263eb9a408d09b"), looks := false }, kinds := [], alts := [], laidByText := true, laidKinds := [.data, .data, .data], laidTests := true, laidLooks := .later }
def WideCommonCardSaid : Prop := Claim7.holds Tryd.pinned (.plain (OpenSpec.ofChange wideCommonSpec)) wideCommonCard

/-- THE TIED CARD OF 'gromalaw01.WideTexts'. -/
def wideTextsCard : Claim7 := { stood := { row := wideTextsRow, standIns := [], harness := (true, "4ed2527afac2d7ec0dcbcf78eea59b09af1b3151fa01c10099263eb9a408d09b"), looks := false }, kinds := [], alts := [], laidByText := true, laidKinds := [.data, .data, .data], laidTests := true, laidLooks := .later }
def WideTextsCardSaid : Prop := Claim7.holds Tryd.pinned (.plain (OpenSpec.ofChange wideTextsSpec)) wideTextsCard

/-- THE TIED CARD OF 'gromalaw01.WideParses'. -/
def wideParsesCard : Claim7 := { stood := { row := wideParsesRow, standIns := [], harness := (true, "4ed2527afac2d7ec0dcbcf78eea59b09af1b3151fa01c10099263eb9a408d09b"), looks := false }, kinds := [], alts := [], laidByText := true, laidKinds := [.data, .data, .data], laidTests := true, laidLooks := .later }
def WideParsesCardSaid : Prop := Claim7.holds Tryd.pinned (.plain (OpenSpec.ofChange wideParsesSpec)) wideParsesCard

/-- THE TIED CARD OF 'gromalaw01.WideRoots'. -/
def wideRootsCard : Claim7 := { stood := { row := wideRootsRow, standIns := [], harness := (true, "4ed2527afac2d7ec0dcbcf78eea59b09af1b3151fa01c10099263eb9a408d09b"), looks := false }, kinds := [], alts := [], laidByText := true, laidKinds := [.data, .data, .data], laidTests := true, laidLooks := .later }
def WideRootsCardSaid : Prop := Claim7.holds Tryd.pinned (.plain (OpenSpec.ofChange wideRootsSpec)) wideRootsCard

/-- THE SECOND FORM's CARD OF 'gromalaw01.WideCommon'. -/
def wideCommonUptoCard : Claim7 := { stood := { row := wideCommonUptoRow, standIns := [], harness := (true, "4ed2527afac2d7ec0dcbcf78eea59b09af1b3151fa01c10099263eb9a408d09b"), looks := false }, kinds := [], alts := [], laidByText := true, laidKinds := [.data, .data, .data], laidTests := true, laidLooks := .later }
def WideCommonUptoCardSaid : Prop := Claim7.holds Tryd.pinned (.plain (OpenSpec.upto wideCommonSpec)) wideCommonUptoCard

/-- THE SECOND FORM's CARD OF 'gromalaw01.WideTexts'. -/
def wideTextsUptoCard : Claim7 := { stood := { row := wideTextsUptoRow, standIns := [], harness := (true, "4ed2527afac2d7ec0dcbcf78eea59b09af1b3151fa01c10099263eb9a408d09b"), looks := false }, kinds := [], alts := [], laidByText := true, laidKinds := [.data, .data, .data], laidTests := true, laidLooks := .later }
def WideTextsUptoCardSaid : Prop := Claim7.holds Tryd.pinned (.plain (OpenSpec.upto wideTextsSpec)) wideTextsUptoCard

/-- THE SECOND FORM's CARD OF 'gromalaw01.WideParses'. -/
def wideParsesUptoCard : Claim7 := { stood := { row := wideParsesUptoRow, standIns := [], harness := (true, "4ed2527afac2d7ec0dcbcf78eea59b09af1b3151fa01c10099263eb9a408d09b"), looks := false }, kinds := [], alts := [], laidByText := true, laidKinds := [.data, .data, .data], laidTests := true, laidLooks := .later }
def WideParsesUptoCardSaid : Prop := Claim7.holds Tryd.pinned (.plain (OpenSpec.upto wideParsesSpec)) wideParsesUptoCard

/-- THE SECOND FORM's CARD OF 'gromalaw01.WideRoots'. -/
def wideRootsUptoCard : Claim7 := { stood := { row := wideRootsUptoRow, standIns := [], harness := (true, "4ed2527afac2d7ec0dcbcf78eea59b09af1b3151fa01c10099263eb9a408d09b"), looks := false }, kinds := [], alts := [], laidByText := true, laidKinds := [.data, .data, .data], laidTests := true, laidLooks := .later }
def WideRootsUptoCardSaid : Prop := Claim7.holds Tryd.pinned (.plain (OpenSpec.upto wideRootsSpec)) wideRootsUptoCard
end Rows
end Go.Proofs.YtcfiemeknocgjaaDoor
