/-
  DERIVED. GIVEN WITH THE SEED: THE CARDS: each row of YtckffbklaepmpaaDoorRows.lean that lists a variable, with what it lists TIED to the program's text (the seventh form; the later family's looks); each row that meets fmt, with fmt's text TOLD by the authors' own Lean function (tested against real Go, not proved from fmt's source: count such statements apart). THE CARD IS WHAT COUNTS. Prove the row's statement (the work); the ties are given (YtckffbklaepmpaaDoorTie.lean); close each card by the builder's one call (the guide's Derived/Test/ToyasCard.lean, 'card_holds'). Laid BY PROGRAM, IN A SANDBOX (cutbox-door.mjs). By AI agents, Wed Nov 11 2026. No macro, syntax, notation, axiom, sorry.
-/
import Derived.Test.YtckffbklaepmpaaDoorRows
import GoSem.ClaimSeven
namespace Go.Proofs.YtckffbklaepmpaaDoor
namespace Rows

/-- THE TIED CARD OF 'tallystonelaw34.CompileCounts'. -/
def compileCountsCard : Claim7 := { stood := { row := compileCountsRow, standIns := [], harness := (true, "6b98edcf7601c443a702d36d552e9e84c4381220308cc1920f1e275c68329407"), looks := true }, kinds := [], alts := [], laidByText := true, laidKinds := [.data, .data, .data, .listed, .data], laidTests := true, laidLooks := .later }
def CompileCountsCardSaid : Prop := Claim7.holds Tryd.pinned (.plain (OpenSpec.ofChange compileCountsSpec)) compileCountsCard

/-- THE TIED CARD OF 'tallystonelaw34.CompileDamage'. -/
def compileDamageCard : Claim7 := { stood := { row := compileDamageRow, standIns := [], harness := (true, "6b98edcf7601c443a702d36d552e9e84c4381220308cc1920f1e275c68329407"), looks := true }, kinds := [], alts := [], laidByText := true, laidKinds := [.data, .data, .data, .listed, .data], laidTests := true, laidLooks := .later }
def CompileDamageCardSaid : Prop := Claim7.holds Tryd.pinned (.plain (OpenSpec.ofChange compileDamageSpec)) compileDamageCard

/-- THE SECOND FORM's CARD OF 'tallystonelaw34.CompileCounts'. -/
def compileCountsUptoCard : Claim7 := { stood := { row := compileCountsUptoRow, standIns := [], harness := (true, "6b98edcf7601c443a702d36d552e9e84c4381220308cc1920f1e275c68329407"), looks := true }, kinds := [], alts := [], laidByText := true, laidKinds := [.data, .data, .data, .listed, .data], laidTests := true, laidLooks := .later }
def CompileCountsUptoCardSaid : Prop := Claim7.holds Tryd.pinned (.plain (OpenSpec.upto compileCountsSpec)) compileCountsUptoCard

/-- THE SECOND FORM's CARD OF 'tallystonelaw34.CompileDamage'. -/
def compileDamageUptoCard : Claim7 := { stood := { row := compileDamageUptoRow, standIns := [], harness := (true, "6b98edcf7601c443a702d36d552e9e84c4381220308cc1920f1e275c68329407"), looks := true }, kinds := [], alts := [], laidByText := true, laidKinds := [.data, .data, .data, .listed, .data], laidTests := true, laidLooks := .later }
def CompileDamageUptoCardSaid : Prop := Claim7.holds Tryd.pinned (.plain (OpenSpec.upto compileDamageSpec)) compileDamageUptoCard
end Rows
end Go.Proofs.YtckffbklaepmpaaDoor
