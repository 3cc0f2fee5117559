/-
  DERIVED. GIVEN WITH THE SEED: THE CARDS: each row of YtkapabohpfkcoaaDoorRows.lean that lists a variable, with what it lists TIED to the program's text (the seventh form; the later family's looks); each row that meets fmt, with fmt's text TOLD by the authors' own Lean function (tested against real Go, not proved from fmt's source: count such statements apart). THE CARD IS WHAT COUNTS. Prove the row's statement (the work); the ties are given (YtkapabohpfkcoaaDoorTie.lean); close each card by the builder's one call (the guide's Derived/Test/ToyasCard.lean, 'card_holds'). Laid BY PROGRAM, IN A SANDBOX (cutbox-door.mjs). By AI agents, Wed Nov 11 2026. No macro, syntax, notation, axiom, sorry.
-/
import Derived.Test.YtkapabohpfkcoaaDoorRows
import GoSem.ClaimSeven
namespace Go.Proofs.YtkapabohpfkcoaaDoor
namespace Rows

/-- THE TIED CARD OF 'tallystonelaw34.CompileOperates'. -/
def compileOperatesCard : Claim7 := { stood := { row := compileOperatesRow, standIns := [], harness := (true, "1807d5a33dfb15976345f1e187f85a10ece91d6abb6db9bcf81d475b15714bab"), looks := true }, kinds := [], alts := [], laidByText := true, laidKinds := [.data, .data, .data], laidTests := true, laidLooks := .later }
def CompileOperatesCardSaid : Prop := Claim7.holds Tryd.pinned (.plain (OpenSpec.ofChange compileOperatesSpec)) compileOperatesCard

/-- THE TIED CARD OF 'tallystonelaw34.CompileOrders'. -/
def compileOrdersCard : Claim7 := { stood := { row := compileOrdersRow, standIns := [], harness := (true, "1807d5a33dfb15976345f1e187f85a10ece91d6abb6db9bcf81d475b15714bab"), looks := true }, kinds := [], alts := [], laidByText := true, laidKinds := [.data, .data, .data], laidTests := true, laidLooks := .later }
def CompileOrdersCardSaid : Prop := Claim7.holds Tryd.pinned (.plain (OpenSpec.ofChange compileOrdersSpec)) compileOrdersCard

/-- THE TIED CARD OF 'tallystonelaw33.CheckTypes'. -/
def checkTypesCard : Claim7 := { stood := { row := checkTypesRow, standIns := [], harness := (true, "1807d5a33dfb15976345f1e187f85a10ece91d6abb6db9bcf81d475b15714bab"), looks := true }, kinds := [], alts := [], laidByText := true, laidKinds := [.listed, .data], laidTests := true, laidLooks := .later }
def CheckTypesCardSaid : Prop := Claim7.holds Tryd.pinned (.plain (OpenSpec.ofChange checkTypesSpec)) checkTypesCard

/-- THE TIED CARD OF 'tallystonelaw34.CompileValid'. -/
def compileValidCard : Claim7 := { stood := { row := compileValidRow, standIns := [], harness := (true, "1807d5a33dfb15976345f1e187f85a10ece91d6abb6db9bcf81d475b15714bab"), looks := true }, kinds := [], alts := [], laidByText := true, laidKinds := [.data, .data, .data], laidTests := true, laidLooks := .later }
def CompileValidCardSaid : Prop := Claim7.holds Tryd.pinned (.plain (OpenSpec.ofChange compileValidSpec)) compileValidCard

/-- THE TIED CARD OF 'tallystonelaw34.CompileFolds'. -/
def compileFoldsCard : Claim7 := { stood := { row := compileFoldsRow, standIns := [], harness := (true, "1807d5a33dfb15976345f1e187f85a10ece91d6abb6db9bcf81d475b15714bab"), looks := true }, kinds := [], alts := [], laidByText := true, laidKinds := [.data, .data, .data], laidTests := true, laidLooks := .later }
def CompileFoldsCardSaid : Prop := Claim7.holds Tryd.pinned (.plain (OpenSpec.ofChange compileFoldsSpec)) compileFoldsCard

/-- THE TIED CARD OF 'tallystonelaw33.CheckProgram'. -/
def checkProgramCard : Claim7 := { stood := { row := checkProgramRow, standIns := [], harness := (true, "1807d5a33dfb15976345f1e187f85a10ece91d6abb6db9bcf81d475b15714bab"), looks := true }, kinds := [], alts := [], laidByText := true, laidKinds := [.listed, .data], laidTests := true, laidLooks := .later }
def CheckProgramCardSaid : Prop := Claim7.holds Tryd.pinned (.plain (OpenSpec.ofChange checkProgramSpec)) checkProgramCard

/-- THE TIED CARD OF 'tallystonelaw33.CheckPrefixes'. -/
def checkPrefixesCard : Claim7 := { stood := { row := checkPrefixesRow, standIns := [], harness := (true, "1807d5a33dfb15976345f1e187f85a10ece91d6abb6db9bcf81d475b15714bab"), looks := true }, kinds := [], alts := [], laidByText := true, laidKinds := [.listed, .data], laidTests := true, laidLooks := .later }
def CheckPrefixesCardSaid : Prop := Claim7.holds Tryd.pinned (.plain (OpenSpec.ofChange checkPrefixesSpec)) checkPrefixesCard

/-- THE TIED CARD OF 'tallystonelaw33.CheckRenames'. -/
def checkRenamesCard : Claim7 := { stood := { row := checkRenamesRow, standIns := [], harness := (true, "1807d5a33dfb15976345f1e187f85a10ece91d6abb6db9bcf81d475b15714bab"), looks := true }, kinds := [], alts := [], laidByText := true, laidKinds := [.listed, .data], laidTests := true, laidLooks := .later }
def CheckRenamesCardSaid : Prop := Claim7.holds Tryd.pinned (.plain (OpenSpec.ofChange checkRenamesSpec)) checkRenamesCard

/-- THE TIED CARD OF 'tallystonelaw33.CheckLists'. -/
def checkListsCard : Claim7 := { stood := { row := checkListsRow, standIns := [], harness := (true, "1807d5a33dfb15976345f1e187f85a10ece91d6abb6db9bcf81d475b15714bab"), looks := true }, kinds := [], alts := [], laidByText := true, laidKinds := [.listed, .data], laidTests := true, laidLooks := .later }
def CheckListsCardSaid : Prop := Claim7.holds Tryd.pinned (.plain (OpenSpec.ofChange checkListsSpec)) checkListsCard

/-- THE SECOND FORM's CARD OF 'tallystonelaw34.CompileOperates'. -/
def compileOperatesUptoCard : Claim7 := { stood := { row := compileOperatesUptoRow, standIns := [], harness := (true, "1807d5a33dfb15976345f1e187f85a10ece91d6abb6db9bcf81d475b15714bab"), looks := true }, kinds := [], alts := [], laidByText := true, laidKinds := [.data, .data, .data], laidTests := true, laidLooks := .later }
def CompileOperatesUptoCardSaid : Prop := Claim7.holds Tryd.pinned (.plain (OpenSpec.upto compileOperatesSpec)) compileOperatesUptoCard

/-- THE SECOND FORM's CARD OF 'tallystonelaw34.CompileOrders'. -/
def compileOrdersUptoCard : Claim7 := { stood := { row := compileOrdersUptoRow, standIns := [], harness := (true, "1807d5a33dfb15976345f1e187f85a10ece91d6abb6db9bcf81d475b15714bab"), looks := true }, kinds := [], alts := [], laidByText := true, laidKinds := [.data, .data, .data], laidTests := true, laidLooks := .later }
def CompileOrdersUptoCardSaid : Prop := Claim7.holds Tryd.pinned (.plain (OpenSpec.upto compileOrdersSpec)) compileOrdersUptoCard

/-- THE SECOND FORM's CARD OF 'tallystonelaw33.CheckTypes'. -/
def checkTypesUptoCard : Claim7 := { stood := { row := checkTypesUptoRow, standIns := [], harness := (true, "1807d5a33dfb15976345f1e187f85a10ece91d6abb6db9bcf81d475b15714bab"), looks := true }, kinds := [], alts := [], laidByText := true, laidKinds := [.listed, .data], laidTests := true, laidLooks := .later }
def CheckTypesUptoCardSaid : Prop := Claim7.holds Tryd.pinned (.plain (OpenSpec.upto checkTypesSpec)) checkTypesUptoCard

/-- THE SECOND FORM's CARD OF 'tallystonelaw34.CompileValid'. -/
def compileValidUptoCard : Claim7 := { stood := { row := compileValidUptoRow, standIns := [], harness := (true, "1807d5a33dfb15976345f1e187f85a10ece91d6abb6db9bcf81d475b15714bab"), looks := true }, kinds := [], alts := [], laidByText := true, laidKinds := [.data, .data, .data], laidTests := true, laidLooks := .later }
def CompileValidUptoCardSaid : Prop := Claim7.holds Tryd.pinned (.plain (OpenSpec.upto compileValidSpec)) compileValidUptoCard

/-- THE SECOND FORM's CARD OF 'tallystonelaw34.CompileFolds'. -/
def compileFoldsUptoCard : Claim7 := { stood := { row := compileFoldsUptoRow, standIns := [], harness := (true, "1807d5a33dfb15976345f1e187f85a10ece91d6abb6db9bcf81d475b15714bab"), looks := true }, kinds := [], alts := [], laidByText := true, laidKinds := [.data, .data, .data], laidTests := true, laidLooks := .later }
def CompileFoldsUptoCardSaid : Prop := Claim7.holds Tryd.pinned (.plain (OpenSpec.upto compileFoldsSpec)) compileFoldsUptoCard

/-- THE SECOND FORM's CARD OF 'tallystonelaw33.CheckProgram'. -/
def checkProgramUptoCard : Claim7 := { stood := { row := checkProgramUptoRow, standIns := [], harness := (true, "1807d5a33dfb15976345f1e187f85a10ece91d6abb6db9bcf81d475b15714bab"), looks := true }, kinds := [], alts := [], laidByText := true, laidKinds := [.listed, .data], laidTests := true, laidLooks := .later }
def CheckProgramUptoCardSaid : Prop := Claim7.holds Tryd.pinned (.plain (OpenSpec.upto checkProgramSpec)) checkProgramUptoCard

/-- THE SECOND FORM's CARD OF 'tallystonelaw33.CheckPrefixes'. -/
def checkPrefixesUptoCard : Claim7 := { stood := { row := checkPrefixesUptoRow, standIns := [], harness := (true, "1807d5a33dfb15976345f1e187f85a10ece91d6abb6db9bcf81d475b15714bab"), looks := true }, kinds := [], alts := [], laidByText := true, laidKinds := [.listed, .data], laidTests := true, laidLooks := .later }
def CheckPrefixesUptoCardSaid : Prop := Claim7.holds Tryd.pinned (.plain (OpenSpec.upto checkPrefixesSpec)) checkPrefixesUptoCard

/-- THE SECOND FORM's CARD OF 'tallystonelaw33.CheckRenames'. -/
def checkRenamesUptoCard : Claim7 := { stood := { row := checkRenamesUptoRow, standIns := [], harness := (true, "1807d5a33dfb15976345f1e187f85a10ece91d6abb6db9bcf81d475b15714bab"), looks := true }, kinds := [], alts := [], laidByText := true, laidKinds := [.listed, .data], laidTests := true, laidLooks := .later }
def CheckRenamesUptoCardSaid : Prop := Claim7.holds Tryd.pinned (.plain (OpenSpec.upto checkRenamesSpec)) checkRenamesUptoCard

/-- THE SECOND FORM's CARD OF 'tallystonelaw33.CheckLists'. -/
def checkListsUptoCard : Claim7 := { stood := { row := checkListsUptoRow, standIns := [], harness := (true, "1807d5a33dfb15976345f1e187f85a10ece91d6abb6db9bcf81d475b15714bab"), looks := true }, kinds := [], alts := [], laidByText := true, laidKinds := [.listed, .data], laidTests := true, laidLooks := .later }
def CheckListsUptoCardSaid : Prop := Claim7.holds Tryd.pinned (.plain (OpenSpec.upto checkListsSpec)) checkListsUptoCard
end Rows
end Go.Proofs.YtkapabohpfkcoaaDoor
