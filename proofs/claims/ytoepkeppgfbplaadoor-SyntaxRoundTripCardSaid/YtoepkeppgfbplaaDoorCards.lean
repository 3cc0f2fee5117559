/-
  DERIVED. GIVEN WITH THE SEED: THE CARDS: each row of YtoepkeppgfbplaaDoorRows.lean that lists a variable, with what it lists TIED to the program's text (the seventh form; the later family's looks); each row that meets fmt, with fmt's text TOLD by the authors' own Lean function (tested against real Go, not proved from fmt's source: count such statements apart). THE CARD IS WHAT COUNTS. Prove the row's statement (the work); the ties are given (YtoepkeppgfbplaaDoorTie.lean); close each card by the builder's one call (the guide's Derived/Test/ToyasCard.lean, 'card_holds'). Laid BY PROGRAM, IN A SANDBOX (cutbox-door.mjs). By AI agents, Wed Nov 11 2026. No macro, syntax, notation, axiom, sorry.
-/
import Derived.Test.YtoepkeppgfbplaaDoorRows
import GoSem.ClaimSeven
namespace Go.Proofs.YtoepkeppgfbplaaDoor
namespace Rows

/-- THE TIED CARD OF 'tallystonelaw32.SyntaxPrint'. -/
def syntaxPrintCard : Claim7 := { stood := { row := syntaxPrintRow, standIns := [], harness := (true, "5cb2f0490a62456188abefb3df9ca31b20c9ed86a88f721b5184bae4003d8712"), looks := false }, kinds := [], alts := [], laidByText := true, laidKinds := [.data, .data, .data, .listed, .data], laidTests := true, laidLooks := .later }
def SyntaxPrintCardSaid : Prop := Claim7.holds Tryd.pinned (.plain (OpenSpec.ofChange syntaxPrintSpec)) syntaxPrintCard

/-- THE TIED CARD OF 'tallystonelaw32.SyntaxRejects'. -/
def syntaxRejectsCard : Claim7 := { stood := { row := syntaxRejectsRow, standIns := [], harness := (true, "5cb2f0490a62456188abefb3df9ca31b20c9ed86a88f721b5184bae4003d8712"), looks := false }, kinds := [], alts := [], laidByText := true, laidKinds := [.data, .data, .data, .listed, .data], laidTests := true, laidLooks := .later }
def SyntaxRejectsCardSaid : Prop := Claim7.holds Tryd.pinned (.plain (OpenSpec.ofChange syntaxRejectsSpec)) syntaxRejectsCard

/-- THE TIED CARD OF 'tallystonelaw32.SyntaxSame'. -/
def syntaxSameCard : Claim7 := { stood := { row := syntaxSameRow, standIns := [], harness := (true, "5cb2f0490a62456188abefb3df9ca31b20c9ed86a88f721b5184bae4003d8712"), looks := false }, kinds := [], alts := [], laidByText := true, laidKinds := [.data, .data, .data, .listed, .data], laidTests := true, laidLooks := .later }
def SyntaxSameCardSaid : Prop := Claim7.holds Tryd.pinned (.plain (OpenSpec.ofChange syntaxSameSpec)) syntaxSameCard

/-- THE TIED CARD OF 'tallystonelaw32.SyntaxRoundTrip'. -/
def syntaxRoundTripCard : Claim7 := { stood := { row := syntaxRoundTripRow, standIns := [], harness := (true, "5cb2f0490a62456188abefb3df9ca31b20c9ed86a88f721b5184bae4003d8712"), looks := false }, kinds := [], alts := [], laidByText := true, laidKinds := [.data, .data, .data, .listed, .data], laidTests := true, laidLooks := .later }
def SyntaxRoundTripCardSaid : Prop := Claim7.holds Tryd.pinned (.plain (OpenSpec.ofChange syntaxRoundTripSpec)) syntaxRoundTripCard

/-- THE TIED CARD OF 'tallystonelaw32.SyntaxNormal'. -/
def syntaxNormalCard : Claim7 := { stood := { row := syntaxNormalRow, standIns := [], harness := (true, "5cb2f0490a62456188abefb3df9ca31b20c9ed86a88f721b5184bae4003d8712"), looks := false }, kinds := [], alts := [], laidByText := true, laidKinds := [.data, .data, .data, .listed, .data], laidTests := true, laidLooks := .later }
def SyntaxNormalCardSaid : Prop := Claim7.holds Tryd.pinned (.plain (OpenSpec.ofChange syntaxNormalSpec)) syntaxNormalCard

/-- THE TIED CARD OF 'tallystonelaw32.SyntaxNeedless'. -/
def syntaxNeedlessCard : Claim7 := { stood := { row := syntaxNeedlessRow, standIns := [], harness := (true, "5cb2f0490a62456188abefb3df9ca31b20c9ed86a88f721b5184bae4003d8712"), looks := false }, kinds := [], alts := [], laidByText := true, laidKinds := [.data, .data, .data, .listed, .data], laidTests := true, laidLooks := .later }
def SyntaxNeedlessCardSaid : Prop := Claim7.holds Tryd.pinned (.plain (OpenSpec.ofChange syntaxNeedlessSpec)) syntaxNeedlessCard

/-- THE TIED CARD OF 'tallystonelaw32.SyntaxParts'. -/
def syntaxPartsCard : Claim7 := { stood := { row := syntaxPartsRow, standIns := [], harness := (true, "5cb2f0490a62456188abefb3df9ca31b20c9ed86a88f721b5184bae4003d8712"), looks := false }, kinds := [], alts := [], laidByText := true, laidKinds := [.data, .data, .data, .listed, .data], laidTests := true, laidLooks := .later }
def SyntaxPartsCardSaid : Prop := Claim7.holds Tryd.pinned (.plain (OpenSpec.ofChange syntaxPartsSpec)) syntaxPartsCard

/-- THE SECOND FORM's CARD OF 'tallystonelaw32.SyntaxPrint'. -/
def syntaxPrintUptoCard : Claim7 := { stood := { row := syntaxPrintUptoRow, standIns := [], harness := (true, "5cb2f0490a62456188abefb3df9ca31b20c9ed86a88f721b5184bae4003d8712"), looks := false }, kinds := [], alts := [], laidByText := true, laidKinds := [.data, .data, .data, .listed, .data], laidTests := true, laidLooks := .later }
def SyntaxPrintUptoCardSaid : Prop := Claim7.holds Tryd.pinned (.plain (OpenSpec.upto syntaxPrintSpec)) syntaxPrintUptoCard

/-- THE SECOND FORM's CARD OF 'tallystonelaw32.SyntaxRejects'. -/
def syntaxRejectsUptoCard : Claim7 := { stood := { row := syntaxRejectsUptoRow, standIns := [], harness := (true, "5cb2f0490a62456188abefb3df9ca31b20c9ed86a88f721b5184bae4003d8712"), looks := false }, kinds := [], alts := [], laidByText := true, laidKinds := [.data, .data, .data, .listed, .data], laidTests := true, laidLooks := .later }
def SyntaxRejectsUptoCardSaid : Prop := Claim7.holds Tryd.pinned (.plain (OpenSpec.upto syntaxRejectsSpec)) syntaxRejectsUptoCard

/-- THE SECOND FORM's CARD OF 'tallystonelaw32.SyntaxSame'. -/
def syntaxSameUptoCard : Claim7 := { stood := { row := syntaxSameUptoRow, standIns := [], harness := (true, "5cb2f0490a62456188abefb3df9ca31b20c9ed86a88f721b5184bae4003d8712"), looks := false }, kinds := [], alts := [], laidByText := true, laidKinds := [.data, .data, .data, .listed, .data], laidTests := true, laidLooks := .later }
def SyntaxSameUptoCardSaid : Prop := Claim7.holds Tryd.pinned (.plain (OpenSpec.upto syntaxSameSpec)) syntaxSameUptoCard

/-- THE SECOND FORM's CARD OF 'tallystonelaw32.SyntaxRoundTrip'. -/
def syntaxRoundTripUptoCard : Claim7 := { stood := { row := syntaxRoundTripUptoRow, standIns := [], harness := (true, "5cb2f0490a62456188abefb3df9ca31b20c9ed86a88f721b5184bae4003d8712"), looks := false }, kinds := [], alts := [], laidByText := true, laidKinds := [.data, .data, .data, .listed, .data], laidTests := true, laidLooks := .later }
def SyntaxRoundTripUptoCardSaid : Prop := Claim7.holds Tryd.pinned (.plain (OpenSpec.upto syntaxRoundTripSpec)) syntaxRoundTripUptoCard

/-- THE SECOND FORM's CARD OF 'tallystonelaw32.SyntaxNormal'. -/
def syntaxNormalUptoCard : Claim7 := { stood := { row := syntaxNormalUptoRow, standIns := [], harness := (true, "5cb2f0490a62456188abefb3df9ca31b20c9ed86a88f721b5184bae4003d8712"), looks := false }, kinds := [], alts := [], laidByText := true, laidKinds := [.data, .data, .data, .listed, .data], laidTests := true, laidLooks := .later }
def SyntaxNormalUptoCardSaid : Prop := Claim7.holds Tryd.pinned (.plain (OpenSpec.upto syntaxNormalSpec)) syntaxNormalUptoCard

/-- THE SECOND FORM's CARD OF 'tallystonelaw32.SyntaxNeedless'. -/
def syntaxNeedlessUptoCard : Claim7 := { stood := { row := syntaxNeedlessUptoRow, standIns := [], harness := (true, "5cb2f0490a62456188abefb3df9ca31b20c9ed86a88f721b5184bae4003d8712"), looks := false }, kinds := [], alts := [], laidByText := true, laidKinds := [.data, .data, .data, .listed, .data], laidTests := true, laidLooks := .later }
def SyntaxNeedlessUptoCardSaid : Prop := Claim7.holds Tryd.pinned (.plain (OpenSpec.upto syntaxNeedlessSpec)) syntaxNeedlessUptoCard

/-- THE SECOND FORM's CARD OF 'tallystonelaw32.SyntaxParts'. -/
def syntaxPartsUptoCard : Claim7 := { stood := { row := syntaxPartsUptoRow, standIns := [], harness := (true, "5cb2f0490a62456188abefb3df9ca31b20c9ed86a88f721b5184bae4003d8712"), looks := false }, kinds := [], alts := [], laidByText := true, laidKinds := [.data, .data, .data, .listed, .data], laidTests := true, laidLooks := .later }
def SyntaxPartsUptoCardSaid : Prop := Claim7.holds Tryd.pinned (.plain (OpenSpec.upto syntaxPartsSpec)) syntaxPartsUptoCard
end Rows
end Go.Proofs.YtoepkeppgfbplaaDoor
