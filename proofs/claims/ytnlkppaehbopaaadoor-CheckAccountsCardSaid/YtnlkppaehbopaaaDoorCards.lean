/-
  DERIVED. GIVEN WITH THE SEED: THE CARDS: each row of YtnlkppaehbopaaaDoorRows.lean that lists a variable, with what it lists TIED to the program's text (the seventh form; the later family's looks); each row that meets fmt, with fmt's text TOLD by the authors' own Lean function (tested against real Go, not proved from fmt's source: count such statements apart). THE CARD IS WHAT COUNTS. Prove the row's statement (the work); the ties are given (YtnlkppaehbopaaaDoorTie.lean); close each card by the builder's one call (the guide's Derived/Test/ToyasCard.lean, 'card_holds'). Laid BY PROGRAM, IN A SANDBOX (cutbox-door.mjs). By AI agents, Wed Nov 11 2026. No macro, syntax, notation, axiom, sorry.
-/
import Derived.Test.YtnlkppaehbopaaaDoorRows
import GoSem.ClaimSeven
namespace Go.Proofs.YtnlkppaehbopaaaDoor
namespace Rows

/-- THE TIED CARD OF 'tallystonelaw33.CheckTypes'. -/
def checkTypesCard : Claim7 := { stood := { row := checkTypesRow, standIns := [], harness := (true, "3a16687f48dd722920d135127f8cae2963892561c100197db4da09777decf1cc"), looks := true }, kinds := [], alts := [], laidByText := true, laidKinds := [.listed, .data], laidTests := true, laidLooks := .later }
def CheckTypesCardSaid : Prop := Claim7.holds Tryd.pinned (.plain (OpenSpec.ofChange checkTypesSpec)) checkTypesCard

/-- THE TIED CARD OF 'tallystonelaw33.CheckProgram'. -/
def checkProgramCard : Claim7 := { stood := { row := checkProgramRow, standIns := [], harness := (true, "3a16687f48dd722920d135127f8cae2963892561c100197db4da09777decf1cc"), looks := true }, kinds := [], alts := [], laidByText := true, laidKinds := [.listed, .data], laidTests := true, laidLooks := .later }
def CheckProgramCardSaid : Prop := Claim7.holds Tryd.pinned (.plain (OpenSpec.ofChange checkProgramSpec)) checkProgramCard

/-- THE TIED CARD OF 'tallystonelaw33.CheckLists'. -/
def checkListsCard : Claim7 := { stood := { row := checkListsRow, standIns := [], harness := (true, "3a16687f48dd722920d135127f8cae2963892561c100197db4da09777decf1cc"), looks := true }, kinds := [], alts := [], laidByText := true, laidKinds := [.listed, .data], laidTests := true, laidLooks := .later }
def CheckListsCardSaid : Prop := Claim7.holds Tryd.pinned (.plain (OpenSpec.ofChange checkListsSpec)) checkListsCard

/-- THE TIED CARD OF 'tallystonelaw33.CheckAccounts'. -/
def checkAccountsCard : Claim7 := { stood := { row := checkAccountsRow, standIns := [], harness := (true, "3a16687f48dd722920d135127f8cae2963892561c100197db4da09777decf1cc"), looks := true }, kinds := [], alts := [], laidByText := true, laidKinds := [.listed, .data], laidTests := true, laidLooks := .later }
def CheckAccountsCardSaid : Prop := Claim7.holds Tryd.pinned (.plain (OpenSpec.ofChange checkAccountsSpec)) checkAccountsCard

/-- THE SECOND FORM's CARD OF 'tallystonelaw33.CheckTypes'. -/
def checkTypesUptoCard : Claim7 := { stood := { row := checkTypesUptoRow, standIns := [], harness := (true, "3a16687f48dd722920d135127f8cae2963892561c100197db4da09777decf1cc"), looks := true }, kinds := [], alts := [], laidByText := true, laidKinds := [.listed, .data], laidTests := true, laidLooks := .later }
def CheckTypesUptoCardSaid : Prop := Claim7.holds Tryd.pinned (.plain (OpenSpec.upto checkTypesSpec)) checkTypesUptoCard

/-- THE SECOND FORM's CARD OF 'tallystonelaw33.CheckProgram'. -/
def checkProgramUptoCard : Claim7 := { stood := { row := checkProgramUptoRow, standIns := [], harness := (true, "3a16687f48dd722920d135127f8cae2963892561c100197db4da09777decf1cc"), looks := true }, kinds := [], alts := [], laidByText := true, laidKinds := [.listed, .data], laidTests := true, laidLooks := .later }
def CheckProgramUptoCardSaid : Prop := Claim7.holds Tryd.pinned (.plain (OpenSpec.upto checkProgramSpec)) checkProgramUptoCard

/-- THE SECOND FORM's CARD OF 'tallystonelaw33.CheckLists'. -/
def checkListsUptoCard : Claim7 := { stood := { row := checkListsUptoRow, standIns := [], harness := (true, "3a16687f48dd722920d135127f8cae2963892561c100197db4da09777decf1cc"), looks := true }, kinds := [], alts := [], laidByText := true, laidKinds := [.listed, .data], laidTests := true, laidLooks := .later }
def CheckListsUptoCardSaid : Prop := Claim7.holds Tryd.pinned (.plain (OpenSpec.upto checkListsSpec)) checkListsUptoCard

/-- THE SECOND FORM's CARD OF 'tallystonelaw33.CheckAccounts'. -/
def checkAccountsUptoCard : Claim7 := { stood := { row := checkAccountsUptoRow, standIns := [], harness := (true, "3a16687f48dd722920d135127f8cae2963892561c100197db4da09777decf1cc"), looks := true }, kinds := [], alts := [], laidByText := true, laidKinds := [.listed, .data], laidTests := true, laidLooks := .later }
def CheckAccountsUptoCardSaid : Prop := Claim7.holds Tryd.pinned (.plain (OpenSpec.upto checkAccountsSpec)) checkAccountsUptoCard
end Rows
end Go.Proofs.YtnlkppaehbopaaaDoor
