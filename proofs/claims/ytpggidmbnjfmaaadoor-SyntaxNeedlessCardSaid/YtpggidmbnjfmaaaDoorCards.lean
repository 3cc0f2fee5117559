/-
  DERIVED. GIVEN WITH THE SEED: THE CARDS: each row of YtpggidmbnjfmaaaDoorRows.lean that lists a variable, with what it lists TIED to the program's text (the seventh form; the later family's looks); each row that meets fmt, with fmt's text TOLD by the authors' own Lean function (tested against real Go, not proved from fmt's source: count such statements apart). THE CARD IS WHAT COUNTS. Prove the row's statement (the work); the ties are given (YtpggidmbnjfmaaaDoorTie.lean); close each card by the builder's one call (the guide's Derived/Test/ToyasCard.lean, 'card_holds'). Laid BY PROGRAM, IN A SANDBOX (cutbox-door.mjs). By AI agents, Wed Nov 11 2026. No macro, syntax, notation, axiom, sorry.
-/
import Derived.Test.YtpggidmbnjfmaaaDoorRows
import GoSem.ClaimSeven
namespace Go.Proofs.YtpggidmbnjfmaaaDoor
namespace Rows

/-- THE TIED CARD OF 'tallystonelaw32.SyntaxPrint'. -/
def syntaxPrintCard : Claim7 := { stood := { row := syntaxPrintRow, standIns := [], harness := (true, "57575825f2cc2d4ed4cc9e302adbd7fd0bc29fc38682d164fbf2ede2810acaa7"), looks := false }, kinds := [], alts := [], laidByText := true, laidKinds := [.data, .data, .data, .listed, .data], laidTests := true, laidLooks := .later }
def SyntaxPrintCardSaid : Prop := Claim7.holds Tryd.pinned (.plain (OpenSpec.ofChange syntaxPrintSpec)) syntaxPrintCard

/-- THE TIED CARD OF 'tallystonelaw32.SyntaxSame'. -/
def syntaxSameCard : Claim7 := { stood := { row := syntaxSameRow, standIns := [], harness := (true, "57575825f2cc2d4ed4cc9e302adbd7fd0bc29fc38682d164fbf2ede2810acaa7"), looks := false }, kinds := [], alts := [], laidByText := true, laidKinds := [.data, .data, .data, .listed, .data], laidTests := true, laidLooks := .later }
def SyntaxSameCardSaid : Prop := Claim7.holds Tryd.pinned (.plain (OpenSpec.ofChange syntaxSameSpec)) syntaxSameCard

/-- THE TIED CARD OF 'tallystonelaw32.SyntaxNeedless'. -/
def syntaxNeedlessCard : Claim7 := { stood := { row := syntaxNeedlessRow, standIns := [], harness := (true, "57575825f2cc2d4ed4cc9e302adbd7fd0bc29fc38682d164fbf2ede2810acaa7"), looks := false }, kinds := [], alts := [], laidByText := true, laidKinds := [.data, .data, .data, .listed, .data], laidTests := true, laidLooks := .later }
def SyntaxNeedlessCardSaid : Prop := Claim7.holds Tryd.pinned (.plain (OpenSpec.ofChange syntaxNeedlessSpec)) syntaxNeedlessCard

/-- THE SECOND FORM's CARD OF 'tallystonelaw32.SyntaxPrint'. -/
def syntaxPrintUptoCard : Claim7 := { stood := { row := syntaxPrintUptoRow, standIns := [], harness := (true, "57575825f2cc2d4ed4cc9e302adbd7fd0bc29fc38682d164fbf2ede2810acaa7"), looks := false }, kinds := [], alts := [], laidByText := true, laidKinds := [.data, .data, .data, .listed, .data], laidTests := true, laidLooks := .later }
def SyntaxPrintUptoCardSaid : Prop := Claim7.holds Tryd.pinned (.plain (OpenSpec.upto syntaxPrintSpec)) syntaxPrintUptoCard

/-- THE SECOND FORM's CARD OF 'tallystonelaw32.SyntaxSame'. -/
def syntaxSameUptoCard : Claim7 := { stood := { row := syntaxSameUptoRow, standIns := [], harness := (true, "57575825f2cc2d4ed4cc9e302adbd7fd0bc29fc38682d164fbf2ede2810acaa7"), looks := false }, kinds := [], alts := [], laidByText := true, laidKinds := [.data, .data, .data, .listed, .data], laidTests := true, laidLooks := .later }
def SyntaxSameUptoCardSaid : Prop := Claim7.holds Tryd.pinned (.plain (OpenSpec.upto syntaxSameSpec)) syntaxSameUptoCard

/-- THE SECOND FORM's CARD OF 'tallystonelaw32.SyntaxNeedless'. -/
def syntaxNeedlessUptoCard : Claim7 := { stood := { row := syntaxNeedlessUptoRow, standIns := [], harness := (true, "57575825f2cc2d4ed4cc9e302adbd7fd0bc29fc38682d164fbf2ede2810acaa7"), looks := false }, kinds := [], alts := [], laidByText := true, laidKinds := [.data, .data, .data, .listed, .data], laidTests := true, laidLooks := .later }
def SyntaxNeedlessUptoCardSaid : Prop := Claim7.holds Tryd.pinned (.plain (OpenSpec.upto syntaxNeedlessSpec)) syntaxNeedlessUptoCard
end Rows
end Go.Proofs.YtpggidmbnjfmaaaDoor
