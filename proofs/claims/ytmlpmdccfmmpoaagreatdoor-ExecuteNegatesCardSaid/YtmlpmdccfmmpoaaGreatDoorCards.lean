/-
  DERIVED. GIVEN WITH THE SEED: THE CARDS: each row of YtmlpmdccfmmpoaaGreatDoorRows.lean that lists a variable, with what it lists TIED to the program's text (the seventh form; the later family's looks); each row that meets fmt, with fmt's text TOLD by the authors' own Lean function (tested against real Go, not proved from fmt's source: count such statements apart). THE CARD IS WHAT COUNTS. Prove the row's statement (the work); the ties are given (YtmlpmdccfmmpoaaGreatDoorTie.lean); close each card by the builder's one call (the guide's Derived/Test/ToyasCard.lean, 'card_holds'). Laid BY PROGRAM, IN A SANDBOX (cutbox-door.mjs). By AI agents, Wed Nov 11 2026. No macro, syntax, notation, axiom, sorry.
-/
import Derived.Test.YtmlpmdccfmmpoaaGreatDoorRows
import GoSem.ClaimSeven
namespace Go.Proofs.YtmlpmdccfmmpoaaGreatDoor
namespace Rows

/-- THE TIED CARD OF 'tallystonelaw35.ExecuteValues'. -/
def executeValuesCard : Claim7 := { stood := { row := executeValuesRow, standIns := [], harness := (true, "565e644baa9ac3d1d6acfb24517bcf831a91ab0690057c81ef8a4d7873dc597a"), looks := true }, kinds := [], alts := [], laidByText := true, laidKinds := [.listed, .data], laidTests := true, laidLooks := .later }
def ExecuteValuesCardSaid : Prop := Claim7.holds Tryz.pinned (.plain (OpenSpec.ofChange executeValuesSpec)) executeValuesCard

/-- THE TIED CARD OF 'tallystonelaw35.ExecuteInterprets'. -/
def executeInterpretsCard : Claim7 := { stood := { row := executeInterpretsRow, standIns := [], harness := (true, "565e644baa9ac3d1d6acfb24517bcf831a91ab0690057c81ef8a4d7873dc597a"), looks := true }, kinds := [], alts := [], laidByText := true, laidKinds := [.listed, .data], laidTests := true, laidLooks := .later }
def ExecuteInterpretsCardSaid : Prop := Claim7.holds Tryz.pinned (.plain (OpenSpec.ofChange executeInterpretsSpec)) executeInterpretsCard

/-- THE TIED CARD OF 'tallystonelaw35.ExecuteNegates'. -/
def executeNegatesCard : Claim7 := { stood := { row := executeNegatesRow, standIns := [], harness := (true, "565e644baa9ac3d1d6acfb24517bcf831a91ab0690057c81ef8a4d7873dc597a"), looks := true }, kinds := [], alts := [], laidByText := true, laidKinds := [.listed, .data], laidTests := true, laidLooks := .later }
def ExecuteNegatesCardSaid : Prop := Claim7.holds Tryz.pinned (.plain (OpenSpec.ofChange executeNegatesSpec)) executeNegatesCard

/-- THE TIED CARD OF 'tallystonelaw35.ExecuteCompiles'. -/
def executeCompilesCard : Claim7 := { stood := { row := executeCompilesRow, standIns := [], harness := (true, "565e644baa9ac3d1d6acfb24517bcf831a91ab0690057c81ef8a4d7873dc597a"), looks := true }, kinds := [], alts := [], laidByText := true, laidKinds := [.listed, .data], laidTests := true, laidLooks := .later }
def ExecuteCompilesCardSaid : Prop := Claim7.holds Tryz.pinned (.plain (OpenSpec.ofChange executeCompilesSpec)) executeCompilesCard

/-- THE SECOND FORM's CARD OF 'tallystonelaw35.ExecuteValues'. -/
def executeValuesUptoCard : Claim7 := { stood := { row := executeValuesUptoRow, standIns := [], harness := (true, "565e644baa9ac3d1d6acfb24517bcf831a91ab0690057c81ef8a4d7873dc597a"), looks := true }, kinds := [], alts := [], laidByText := true, laidKinds := [.listed, .data], laidTests := true, laidLooks := .later }
def ExecuteValuesUptoCardSaid : Prop := Claim7.holds Tryz.pinned (.plain (OpenSpec.upto executeValuesSpec)) executeValuesUptoCard

/-- THE SECOND FORM's CARD OF 'tallystonelaw35.ExecuteInterprets'. -/
def executeInterpretsUptoCard : Claim7 := { stood := { row := executeInterpretsUptoRow, standIns := [], harness := (true, "565e644baa9ac3d1d6acfb24517bcf831a91ab0690057c81ef8a4d7873dc597a"), looks := true }, kinds := [], alts := [], laidByText := true, laidKinds := [.listed, .data], laidTests := true, laidLooks := .later }
def ExecuteInterpretsUptoCardSaid : Prop := Claim7.holds Tryz.pinned (.plain (OpenSpec.upto executeInterpretsSpec)) executeInterpretsUptoCard

/-- THE SECOND FORM's CARD OF 'tallystonelaw35.ExecuteNegates'. -/
def executeNegatesUptoCard : Claim7 := { stood := { row := executeNegatesUptoRow, standIns := [], harness := (true, "565e644baa9ac3d1d6acfb24517bcf831a91ab0690057c81ef8a4d7873dc597a"), looks := true }, kinds := [], alts := [], laidByText := true, laidKinds := [.listed, .data], laidTests := true, laidLooks := .later }
def ExecuteNegatesUptoCardSaid : Prop := Claim7.holds Tryz.pinned (.plain (OpenSpec.upto executeNegatesSpec)) executeNegatesUptoCard

/-- THE SECOND FORM's CARD OF 'tallystonelaw35.ExecuteCompiles'. -/
def executeCompilesUptoCard : Claim7 := { stood := { row := executeCompilesUptoRow, standIns := [], harness := (true, "565e644baa9ac3d1d6acfb24517bcf831a91ab0690057c81ef8a4d7873dc597a"), looks := true }, kinds := [], alts := [], laidByText := true, laidKinds := [.listed, .data], laidTests := true, laidLooks := .later }
def ExecuteCompilesUptoCardSaid : Prop := Claim7.holds Tryz.pinned (.plain (OpenSpec.upto executeCompilesSpec)) executeCompilesUptoCard
end Rows
end Go.Proofs.YtmlpmdccfmmpoaaGreatDoor
