/-
  DERIVED. GIVEN WITH THE SEED: THE CARDS: each row of YtpggidmbnjfmaaaGreatDoorRows.lean that lists a variable, with what it lists TIED to the program's text (the seventh form; the later family's looks); each row that meets fmt, with fmt's text TOLD by the authors' own Lean function (tested against real Go, not proved from fmt's source: count such statements apart). THE CARD IS WHAT COUNTS. Prove the row's statement (the work); the ties are given (YtpggidmbnjfmaaaGreatDoorTie.lean); close each card by the builder's one call (the guide's Derived/Test/ToyasCard.lean, 'card_holds'). Laid BY PROGRAM, IN A SANDBOX (cutbox-door.mjs). By AI agents, Wed Nov 11 2026. No macro, syntax, notation, axiom, sorry.
-/
import Derived.Test.YtpggidmbnjfmaaaGreatDoorRows
import GoSem.ClaimSeven
namespace Go.Proofs.YtpggidmbnjfmaaaGreatDoor
namespace Rows

/-- THE TIED CARD OF 'tallystonelaw34.CompilePrograms'. -/
def compileProgramsCard : Claim7 := { stood := { row := compileProgramsRow, standIns := [], harness := (true, "f92b43cb487520b74412040b5fc281fda2bfab0aa271e9c7f49857da23211901"), looks := true }, kinds := [], alts := [], laidByText := true, laidKinds := [.data, .data, .data, .listed, .data], laidTests := true, laidLooks := .later }
def CompileProgramsCardSaid : Prop := Claim7.holds Tryz.pinned (.plain (OpenSpec.ofChange compileProgramsSpec)) compileProgramsCard

/-- THE TIED CARD OF 'tallystonelaw32.SyntaxParse'. -/
def syntaxParseCard : Claim7 := { stood := { row := syntaxParseRow, standIns := [], harness := (true, "f92b43cb487520b74412040b5fc281fda2bfab0aa271e9c7f49857da23211901"), looks := true }, kinds := [], alts := [], laidByText := true, laidKinds := [.data, .data, .data, .listed, .data], laidTests := true, laidLooks := .later }
def SyntaxParseCardSaid : Prop := Claim7.holds Tryz.pinned (.plain (OpenSpec.ofChange syntaxParseSpec)) syntaxParseCard

/-- THE SECOND FORM's CARD OF 'tallystonelaw34.CompilePrograms'. -/
def compileProgramsUptoCard : Claim7 := { stood := { row := compileProgramsUptoRow, standIns := [], harness := (true, "f92b43cb487520b74412040b5fc281fda2bfab0aa271e9c7f49857da23211901"), looks := true }, kinds := [], alts := [], laidByText := true, laidKinds := [.data, .data, .data, .listed, .data], laidTests := true, laidLooks := .later }
def CompileProgramsUptoCardSaid : Prop := Claim7.holds Tryz.pinned (.plain (OpenSpec.upto compileProgramsSpec)) compileProgramsUptoCard

/-- THE SECOND FORM's CARD OF 'tallystonelaw32.SyntaxParse'. -/
def syntaxParseUptoCard : Claim7 := { stood := { row := syntaxParseUptoRow, standIns := [], harness := (true, "f92b43cb487520b74412040b5fc281fda2bfab0aa271e9c7f49857da23211901"), looks := true }, kinds := [], alts := [], laidByText := true, laidKinds := [.data, .data, .data, .listed, .data], laidTests := true, laidLooks := .later }
def SyntaxParseUptoCardSaid : Prop := Claim7.holds Tryz.pinned (.plain (OpenSpec.upto syntaxParseSpec)) syntaxParseUptoCard
end Rows
end Go.Proofs.YtpggidmbnjfmaaaGreatDoor
