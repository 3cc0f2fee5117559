/-
  No cell of these rows narrows 'for every input' (looked for: loops, veiled, ifaces, maps, wideKeys, modest, calm, conditions, laid).
  DERIVED. THE GIVEN ROWS OF THIS SEAT. 5 by the template 'for every input the law returns true; each argument reads behind the call as it read before'; 0 by the template 'total and deterministic' (their statements: YtmlpmdccfmmpoaaGreatTotals.lean).
  GIVEN WITH THE SEED: the statements are not yours to turn. If you find one false, say at which input.
  Laid BY PROGRAM, IN A SANDBOX (cutbox-rows.mjs): the forced cells as the released guide's own fill.sh prints them over the translation f9d3ec243597f672… (all of the seat's roots in one cut). By AI agents, Wed Nov 11 2026. No macro, syntax, notation, axiom, sorry.
-/
import Derived.Test.YtmlpmdccfmmpoaaGreatChecked
import GoSem.Claim
import GoSem.ClaimJoined
import GoSem.ClaimMapViews
import Derived.JoinedTies
import Derived.KernelRfl
namespace Go.Proofs.YtmlpmdccfmmpoaaGreat
/- THE CELL 'sum', in the pinned program and in every row, IS THE sha256 OF THE DUMP (.gsa) THAT YtmlpmdccfmmpoaaGreatProg.lean LOADS. Nothing in Lean hashes anything: it is a label: what it is worth is what the hold of that sum in a sandbox is worth. -/
noncomputable def Tryz.pinned : Pinned := { name := "ytmlpmdccfmmpoaagreat", sum := "f9d3ec243597f6721e96e37f497e37d1091c842396875cb3824b582c1db8716b", checked := Tryz.checked }
namespace Rows
def none {H : Type} : Left H := { results := [], args := [] }

/-- 'tallystonelaw35.ExecuteRuns': WHATEVER THE INPUT: true; the input reads as it did. -/
def executeRunsSpec : ChangeSpec := { name := "executeRuns", fn := fun _ => fun
  | [d1, d2] => { results := [.lit (.bool true)], args := [d1, d2] }
  | _ => none }
def executeRunsRow : OpenClaim := { program := "ytmlpmdccfmmpoaagreat", sum := "f9d3ec243597f6721e96e37f497e37d1091c842396875cb3824b582c1db8716b", func := "tallystone/tallystonelaw35.ExecuteRuns", spec := "executeRuns", unfollowed := true, recurses := true, apart := false }
def ExecuteRunsSaid : Prop := executeRunsRow.holds Tryz.pinned (OpenSpec.ofChange executeRunsSpec)

/-- ITS FALSE NEIGHBOUR: 'it returns false'. Refute it at one input. -/
def executeRunsWrong : ChangeSpec := { name := "executeRuns", fn := fun _ => fun
  | [d1, d2] => { results := [.lit (.bool false)], args := [d1, d2] }
  | _ => none }
def ExecuteRunsWrongFalsely : Prop := executeRunsRow.holds Tryz.pinned (OpenSpec.ofChange executeRunsWrong)

/-- 'tallystonelaw35.ExecuteBalances': WHATEVER THE INPUT: true; the input reads as it did. -/
def executeBalancesSpec : ChangeSpec := { name := "executeBalances", fn := fun _ => fun
  | [d1, d2] => { results := [.lit (.bool true)], args := [d1, d2] }
  | _ => none }
def executeBalancesRow : OpenClaim := { program := "ytmlpmdccfmmpoaagreat", sum := "f9d3ec243597f6721e96e37f497e37d1091c842396875cb3824b582c1db8716b", func := "tallystone/tallystonelaw35.ExecuteBalances", spec := "executeBalances", unfollowed := true, recurses := true, apart := false }
def ExecuteBalancesSaid : Prop := executeBalancesRow.holds Tryz.pinned (OpenSpec.ofChange executeBalancesSpec)

/-- ITS FALSE NEIGHBOUR: 'it returns false'. Refute it at one input. -/
def executeBalancesWrong : ChangeSpec := { name := "executeBalances", fn := fun _ => fun
  | [d1, d2] => { results := [.lit (.bool false)], args := [d1, d2] }
  | _ => none }
def ExecuteBalancesWrongFalsely : Prop := executeBalancesRow.holds Tryz.pinned (OpenSpec.ofChange executeBalancesWrong)

/-- 'tallystonelaw35.ExecuteItems': WHATEVER THE INPUT: true; the input reads as it did. -/
def executeItemsSpec : ChangeSpec := { name := "executeItems", fn := fun _ => fun
  | [d1, d2, d3] => { results := [.lit (.bool true)], args := [d1, d2, d3] }
  | _ => none }
def executeItemsRow : OpenClaim := { program := "ytmlpmdccfmmpoaagreat", sum := "f9d3ec243597f6721e96e37f497e37d1091c842396875cb3824b582c1db8716b", func := "tallystone/tallystonelaw35.ExecuteItems", spec := "executeItems", unfollowed := true, recurses := true, apart := false }
def ExecuteItemsSaid : Prop := executeItemsRow.holds Tryz.pinned (OpenSpec.ofChange executeItemsSpec)

/-- ITS FALSE NEIGHBOUR: 'it returns false'. Refute it at one input. -/
def executeItemsWrong : ChangeSpec := { name := "executeItems", fn := fun _ => fun
  | [d1, d2, d3] => { results := [.lit (.bool false)], args := [d1, d2, d3] }
  | _ => none }
def ExecuteItemsWrongFalsely : Prop := executeItemsRow.holds Tryz.pinned (OpenSpec.ofChange executeItemsWrong)

/-- 'tallystonelaw35.ExecuteOne': WHATEVER THE INPUT: true; the input reads as it did. -/
def executeOneSpec : ChangeSpec := { name := "executeOne", fn := fun _ => fun
  | [d1, d2, d3] => { results := [.lit (.bool true)], args := [d1, d2, d3] }
  | _ => none }
def executeOneRow : OpenClaim := { program := "ytmlpmdccfmmpoaagreat", sum := "f9d3ec243597f6721e96e37f497e37d1091c842396875cb3824b582c1db8716b", func := "tallystone/tallystonelaw35.ExecuteOne", spec := "executeOne", unfollowed := true, recurses := true, apart := false }
def ExecuteOneSaid : Prop := executeOneRow.holds Tryz.pinned (OpenSpec.ofChange executeOneSpec)

/-- ITS FALSE NEIGHBOUR: 'it returns false'. Refute it at one input. -/
def executeOneWrong : ChangeSpec := { name := "executeOne", fn := fun _ => fun
  | [d1, d2, d3] => { results := [.lit (.bool false)], args := [d1, d2, d3] }
  | _ => none }
def ExecuteOneWrongFalsely : Prop := executeOneRow.holds Tryz.pinned (OpenSpec.ofChange executeOneWrong)

/-- 'tallystonelaw35.ExecuteLocal': WHATEVER THE INPUT: true; the input reads as it did. -/
def executeLocalSpec : ChangeSpec := { name := "executeLocal", fn := fun _ => fun
  | [d1, d2] => { results := [.lit (.bool true)], args := [d1, d2] }
  | _ => none }
def executeLocalRow : OpenClaim := { program := "ytmlpmdccfmmpoaagreat", sum := "f9d3ec243597f6721e96e37f497e37d1091c842396875cb3824b582c1db8716b", func := "tallystone/tallystonelaw35.ExecuteLocal", spec := "executeLocal", unfollowed := true, recurses := true, apart := false }
def ExecuteLocalSaid : Prop := executeLocalRow.holds Tryz.pinned (OpenSpec.ofChange executeLocalSpec)

/-- ITS FALSE NEIGHBOUR: 'it returns false'. Refute it at one input. -/
def executeLocalWrong : ChangeSpec := { name := "executeLocal", fn := fun _ => fun
  | [d1, d2] => { results := [.lit (.bool false)], args := [d1, d2] }
  | _ => none }
def ExecuteLocalWrongFalsely : Prop := executeLocalRow.holds Tryz.pinned (OpenSpec.ofChange executeLocalWrong)

/- THE SECOND FORM. 'bulk': how many values and letters a reading holds, each counted each time it is reached (what is shared counts as often as it is met; a slice's spare places count too). A statement '..UptoSaid' is the law's where the arguments, and the package variables that the reading takes, are together of bulk at most 1048576: NARROWER than '..Said'. Prove '..Said' where nothing that the law and all that it calls make is longer than what came in: it says more and counts as full. Else prove '..UptoSaid'. A law counts once. -/
mutual
def uptoBulk {H : Type} : DataW H → Nat
  | .lit (.string bytes) => bytes.length + 1
  | .lit _ => 1
  | .nil => 1
  | .ptr d => uptoBulk d + 1
  | .slice elems spare => uptoBulkAll elems + uptoBulkAll spare + 1
  | .agg parts => uptoBulkAll parts + 1
  | .iface _ d => uptoBulk d + 1
  | .map entries => uptoBulkEntries entries + 1
  | .held _ => 1
def uptoBulkAll {H : Type} : List (DataW H) → Nat
  | [] => 0
  | d :: r => uptoBulk d + uptoBulkAll r
def uptoBulkEntries {H : Type} : List (Lit × DataW H) → Nat
  | [] => 0
  | x :: r => uptoBulkEntry x + uptoBulkEntries r
def uptoBulkEntry {H : Type} : Lit × DataW H → Nat
  | (.string bytes, d) => bytes.length + uptoBulk d + 1
  | (_, d) => uptoBulk d + 1
 end
def uptoSmall : (H : Type) → List (DataW H) → Bool := fun _ ds => decide (uptoBulkAll ds ≤ 1048576)
def OpenSpec.upto (s : _root_.Go.ChangeSpec) : _root_.Go.OpenSpec := { _root_.Go.OpenSpec.ofChange s with cond := some uptoSmall }

/-- 'tallystonelaw35.ExecuteRuns', WHERE WHAT IT READS IS OF BULK AT MOST 1048576: true; the input reads as it did. -/
def executeRunsUptoRow : OpenClaim := { program := "ytmlpmdccfmmpoaagreat", sum := "f9d3ec243597f6721e96e37f497e37d1091c842396875cb3824b582c1db8716b", func := "tallystone/tallystonelaw35.ExecuteRuns", spec := "executeRuns", unfollowed := true, recurses := true, apart := false, narrowed := true }
def ExecuteRunsUptoSaid : Prop := executeRunsUptoRow.holds Tryz.pinned (OpenSpec.upto executeRunsSpec)

/-- 'tallystonelaw35.ExecuteBalances', WHERE WHAT IT READS IS OF BULK AT MOST 1048576: true; the input reads as it did. -/
def executeBalancesUptoRow : OpenClaim := { program := "ytmlpmdccfmmpoaagreat", sum := "f9d3ec243597f6721e96e37f497e37d1091c842396875cb3824b582c1db8716b", func := "tallystone/tallystonelaw35.ExecuteBalances", spec := "executeBalances", unfollowed := true, recurses := true, apart := false, narrowed := true }
def ExecuteBalancesUptoSaid : Prop := executeBalancesUptoRow.holds Tryz.pinned (OpenSpec.upto executeBalancesSpec)

/-- 'tallystonelaw35.ExecuteItems', WHERE WHAT IT READS IS OF BULK AT MOST 1048576: true; the input reads as it did. -/
def executeItemsUptoRow : OpenClaim := { program := "ytmlpmdccfmmpoaagreat", sum := "f9d3ec243597f6721e96e37f497e37d1091c842396875cb3824b582c1db8716b", func := "tallystone/tallystonelaw35.ExecuteItems", spec := "executeItems", unfollowed := true, recurses := true, apart := false, narrowed := true }
def ExecuteItemsUptoSaid : Prop := executeItemsUptoRow.holds Tryz.pinned (OpenSpec.upto executeItemsSpec)

/-- 'tallystonelaw35.ExecuteOne', WHERE WHAT IT READS IS OF BULK AT MOST 1048576: true; the input reads as it did. -/
def executeOneUptoRow : OpenClaim := { program := "ytmlpmdccfmmpoaagreat", sum := "f9d3ec243597f6721e96e37f497e37d1091c842396875cb3824b582c1db8716b", func := "tallystone/tallystonelaw35.ExecuteOne", spec := "executeOne", unfollowed := true, recurses := true, apart := false, narrowed := true }
def ExecuteOneUptoSaid : Prop := executeOneUptoRow.holds Tryz.pinned (OpenSpec.upto executeOneSpec)

/-- 'tallystonelaw35.ExecuteLocal', WHERE WHAT IT READS IS OF BULK AT MOST 1048576: true; the input reads as it did. -/
def executeLocalUptoRow : OpenClaim := { program := "ytmlpmdccfmmpoaagreat", sum := "f9d3ec243597f6721e96e37f497e37d1091c842396875cb3824b582c1db8716b", func := "tallystone/tallystonelaw35.ExecuteLocal", spec := "executeLocal", unfollowed := true, recurses := true, apart := false, narrowed := true }
def ExecuteLocalUptoSaid : Prop := executeLocalUptoRow.holds Tryz.pinned (OpenSpec.upto executeLocalSpec)

end Rows
end Go.Proofs.YtmlpmdccfmmpoaaGreat
