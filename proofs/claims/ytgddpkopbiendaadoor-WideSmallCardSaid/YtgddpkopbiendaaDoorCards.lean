/-
  DERIVED. GIVEN WITH THE SEED: THE CARDS: each row of YtgddpkopbiendaaDoorRows.lean that lists a variable, with what it lists TIED to the program's text (the seventh form; the later family's looks); each row that meets fmt, with fmt's text TOLD by the authors' own Lean function (tested against real Go, not proved from fmt's source: count such statements apart). THE CARD IS WHAT COUNTS. Prove the row's statement (the work); the ties are given (YtgddpkopbiendaaDoorTie.lean); close each card by the builder's one call (the guide's Derived/Test/ToyasCard.lean, 'card_holds'). Laid BY PROGRAM, IN A SANDBOX (cutbox-door.mjs). By AI agents, Wed Nov 11 2026. No macro, syntax, notation, axiom, sorry.
-/
import Derived.Test.YtgddpkopbiendaaDoorRows
import GoSem.ClaimSeven
namespace Go.Proofs.YtgddpkopbiendaaDoor
namespace Rows

/-- THE TIED CARD OF 'gromalaw01.WideProducts'. -/
def wideProductsCard : Claim7 := { stood := { row := wideProductsRow, standIns := [], harness := (true, "93a3bb6e0aefac292e994f1d03db114a862f94248e67ecc848520c20b7220763"), looks := false }, kinds := [], alts := [], laidByText := true, laidKinds := [.data, .data, .data], laidTests := true, laidLooks := .later }
def WideProductsCardSaid : Prop := Claim7.holds Tryd.pinned (.plain (OpenSpec.ofChange wideProductsSpec)) wideProductsCard

/-- THE TIED CARD OF 'gromalaw01.WideDivides'. -/
def wideDividesCard : Claim7 := { stood := { row := wideDividesRow, standIns := [], harness := (true, "93a3bb6e0aefac292e994f1d03db114a862f94248e67ecc848520c20b7220763"), looks := false }, kinds := [], alts := [], laidByText := true, laidKinds := [.data, .data, .data], laidTests := true, laidLooks := .later }
def WideDividesCardSaid : Prop := Claim7.holds Tryd.pinned (.plain (OpenSpec.ofChange wideDividesSpec)) wideDividesCard

/-- THE TIED CARD OF 'gromalaw01.WideSmall'. -/
def wideSmallCard : Claim7 := { stood := { row := wideSmallRow, standIns := [], harness := (true, "93a3bb6e0aefac292e994f1d03db114a862f94248e67ecc848520c20b7220763"), looks := false }, kinds := [], alts := [], laidByText := true, laidKinds := [.data, .data, .data], laidTests := true, laidLooks := .later }
def WideSmallCardSaid : Prop := Claim7.holds Tryd.pinned (.plain (OpenSpec.ofChange wideSmallSpec)) wideSmallCard

/-- THE TIED CARD OF 'gromalaw01.WideCommon'. -/
def wideCommonCard : Claim7 := { stood := { row := wideCommonRow, standIns := [], harness := (true, "93a3bb6e0aefac292e994f1d03db114a862f94248e67ecc848520c20b7220763"), looks := false }, kinds := [], alts := [], laidByText := true, laidKinds := [.data, .data, .data], laidTests := true, laidLooks := .later }
def WideCommonCardSaid : Prop := Claim7.holds Tryd.pinned (.plain (OpenSpec.ofChange wideCommonSpec)) wideCommonCard

/-- THE TIED CARD OF 'gromalaw01.WideSums'. -/
def wideSumsCard : Claim7 := { stood := { row := wideSumsRow, standIns := [], harness := (true, "93a3bb6e0aefac292e994f1d03db114a862f94248e67ecc848520c20b7220763"), looks := false }, kinds := [], alts := [], laidByText := true, laidKinds := [.data, .data, .data], laidTests := true, laidLooks := .later }
def WideSumsCardSaid : Prop := Claim7.holds Tryd.pinned (.plain (OpenSpec.ofChange wideSumsSpec)) wideSumsCard

/-- THE TIED CARD OF 'gromalaw01.WideTexts'. -/
def wideTextsCard : Claim7 := { stood := { row := wideTextsRow, standIns := [], harness := (true, "93a3bb6e0aefac292e994f1d03db114a862f94248e67ecc848520c20b7220763"), looks := false }, kinds := [], alts := [], laidByText := true, laidKinds := [.data, .data, .data], laidTests := true, laidLooks := .later }
def WideTextsCardSaid : Prop := Claim7.holds Tryd.pinned (.plain (OpenSpec.ofChange wideTextsSpec)) wideTextsCard

/-- THE TIED CARD OF 'gromalaw01.WideParses'. -/
def wideParsesCard : Claim7 := { stood := { row := wideParsesRow, standIns := [], harness := (true, "93a3bb6e0aefac292e994f1d03db114a862f94248e67ecc848520c20b7220763"), looks := false }, kinds := [], alts := [], laidByText := true, laidKinds := [.data, .data, .data], laidTests := true, laidLooks := .later }
def WideParsesCardSaid : Prop := Claim7.holds Tryd.pinned (.plain (OpenSpec.ofChange wideParsesSpec)) wideParsesCard

/-- THE TIED CARD OF 'gromalaw01.WideOrders'. -/
def wideOrdersCard : Claim7 := { stood := { row := wideOrdersRow, standIns := [], harness := (true, "93a3bb6e0aefac292e994f1d03db114a862f94248e67ecc848520c20b7220763"), looks := false }, kinds := [], alts := [], laidByText := true, laidKinds := [.data, .data, .data], laidTests := true, laidLooks := .later }
def WideOrdersCardSaid : Prop := Claim7.holds Tryd.pinned (.plain (OpenSpec.ofChange wideOrdersSpec)) wideOrdersCard

/-- THE TIED CARD OF 'gromalaw01.WideRoots'. -/
def wideRootsCard : Claim7 := { stood := { row := wideRootsRow, standIns := [], harness := (true, "93a3bb6e0aefac292e994f1d03db114a862f94248e67ecc848520c20b7220763"), looks := false }, kinds := [], alts := [], laidByText := true, laidKinds := [.data, .data, .data], laidTests := true, laidLooks := .later }
def WideRootsCardSaid : Prop := Claim7.holds Tryd.pinned (.plain (OpenSpec.ofChange wideRootsSpec)) wideRootsCard

/-- THE SECOND FORM's CARD OF 'gromalaw01.WideProducts'. -/
def wideProductsUptoCard : Claim7 := { stood := { row := wideProductsUptoRow, standIns := [], harness := (true, "93a3bb6e0aefac292e994f1d03db114a862f94248e67ecc848520c20b7220763"), looks := false }, kinds := [], alts := [], laidByText := true, laidKinds := [.data, .data, .data], laidTests := true, laidLooks := .later }
def WideProductsUptoCardSaid : Prop := Claim7.holds Tryd.pinned (.plain (OpenSpec.upto wideProductsSpec)) wideProductsUptoCard

/-- THE SECOND FORM's CARD OF 'gromalaw01.WideDivides'. -/
def wideDividesUptoCard : Claim7 := { stood := { row := wideDividesUptoRow, standIns := [], harness := (true, "93a3bb6e0aefac292e994f1d03db114a862f94248e67ecc848520c20b7220763"), looks := false }, kinds := [], alts := [], laidByText := true, laidKinds := [.data, .data, .data], laidTests := true, laidLooks := .later }
def WideDividesUptoCardSaid : Prop := Claim7.holds Tryd.pinned (.plain (OpenSpec.upto wideDividesSpec)) wideDividesUptoCard

/-- THE SECOND FORM's CARD OF 'gromalaw01.WideSmall'. -/
def wideSmallUptoCard : Claim7 := { stood := { row := wideSmallUptoRow, standIns := [], harness := (true, "93a3bb6e0aefac292e994f1d03db114a862f94248e67ecc848520c20b7220763"), looks := false }, kinds := [], alts := [], laidByText := true, laidKinds := [.data, .data, .data], laidTests := true, laidLooks := .later }
def WideSmallUptoCardSaid : Prop := Claim7.holds Tryd.pinned (.plain (OpenSpec.upto wideSmallSpec)) wideSmallUptoCard

/-- THE SECOND FORM's CARD OF 'gromalaw01.WideCommon'. -/
def wideCommonUptoCard : Claim7 := { stood := { row := wideCommonUptoRow, standIns := [], harness := (true, "93a3bb6e0aefac292e994f1d03db114a862f94248e67ecc848520c20b7220763"), looks := false }, kinds := [], alts := [], laidByText := true, laidKinds := [.data, .data, .data], laidTests := true, laidLooks := .later }
def WideCommonUptoCardSaid : Prop := Claim7.holds Tryd.pinned (.plain (OpenSpec.upto wideCommonSpec)) wideCommonUptoCard

/-- THE SECOND FORM's CARD OF 'gromalaw01.WideSums'. -/
def wideSumsUptoCard : Claim7 := { stood := { row := wideSumsUptoRow, standIns := [], harness := (true, "93a3bb6e0aefac292e994f1d03db114a862f94248e67ecc848520c20b7220763"), looks := false }, kinds := [], alts := [], laidByText := true, laidKinds := [.data, .data, .data], laidTests := true, laidLooks := .later }
def WideSumsUptoCardSaid : Prop := Claim7.holds Tryd.pinned (.plain (OpenSpec.upto wideSumsSpec)) wideSumsUptoCard

/-- THE SECOND FORM's CARD OF 'gromalaw01.WideTexts'. -/
def wideTextsUptoCard : Claim7 := { stood := { row := wideTextsUptoRow, standIns := [], harness := (true, "93a3bb6e0aefac292e994f1d03db114a862f94248e67ecc848520c20b7220763"), looks := false }, kinds := [], alts := [], laidByText := true, laidKinds := [.data, .data, .data], laidTests := true, laidLooks := .later }
def WideTextsUptoCardSaid : Prop := Claim7.holds Tryd.pinned (.plain (OpenSpec.upto wideTextsSpec)) wideTextsUptoCard

/-- THE SECOND FORM's CARD OF 'gromalaw01.WideParses'. -/
def wideParsesUptoCard : Claim7 := { stood := { row := wideParsesUptoRow, standIns := [], harness := (true, "93a3bb6e0aefac292e994f1d03db114a862f94248e67ecc848520c20b7220763"), looks := false }, kinds := [], alts := [], laidByText := true, laidKinds := [.data, .data, .data], laidTests := true, laidLooks := .later }
def WideParsesUptoCardSaid : Prop := Claim7.holds Tryd.pinned (.plain (OpenSpec.upto wideParsesSpec)) wideParsesUptoCard

/-- THE SECOND FORM's CARD OF 'gromalaw01.WideOrders'. -/
def wideOrdersUptoCard : Claim7 := { stood := { row := wideOrdersUptoRow, standIns := [], harness := (true, "93a3bb6e0aefac292e994f1d03db114a862f94248e67ecc848520c20b7220763"), looks := false }, kinds := [], alts := [], laidByText := true, laidKinds := [.data, .data, .data], laidTests := true, laidLooks := .later }
def WideOrdersUptoCardSaid : Prop := Claim7.holds Tryd.pinned (.plain (OpenSpec.upto wideOrdersSpec)) wideOrdersUptoCard

/-- THE SECOND FORM's CARD OF 'gromalaw01.WideRoots'. -/
def wideRootsUptoCard : Claim7 := { stood := { row := wideRootsUptoRow, standIns := [], harness := (true, "93a3bb6e0aefac292e994f1d03db114a862f94248e67ecc848520c20b7220763"), looks := false }, kinds := [], alts := [], laidByText := true, laidKinds := [.data, .data, .data], laidTests := true, laidLooks := .later }
def WideRootsUptoCardSaid : Prop := Claim7.holds Tryd.pinned (.plain (OpenSpec.upto wideRootsSpec)) wideRootsUptoCard
end Rows
end Go.Proofs.YtgddpkopbiendaaDoor
