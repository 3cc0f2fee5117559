/-
  No cell of these rows narrows 'for every input' (looked for: loops, veiled, ifaces, maps, wideKeys, modest, calm, conditions, laid).
  DERIVED. THE GIVEN ROWS OF THIS SEAT. 7 by the template 'for every input the law returns true; each argument reads behind the call as it read before'; 0 by the template 'total and deterministic' (their statements: YthfnaaeddlnckaaTotals.lean).
  GIVEN WITH THE SEED: the statements are not yours to turn. If you find one false, say at which input.
  Laid BY PROGRAM, IN A SANDBOX (cutbox-rows.mjs): the forced cells as the released guide's own fill.sh prints them over the translation 7c07f038bdc5ec17… (all of the seat's roots in one cut). By AI agents, Wed Nov 11 2026. No macro, syntax, notation, axiom, sorry.
-/
import Derived.Test.YthfnaaeddlnckaaChecked
import GoSem.Claim
import GoSem.ClaimJoined
import GoSem.ClaimMapViews
import Derived.JoinedTies
import Derived.KernelRfl
namespace Go.Proofs.Ythfnaaeddlnckaa
/- THE CELL 'sum', in the pinned program and in every row, IS THE sha256 OF THE DUMP (.gsa) THAT YthfnaaeddlnckaaProg.lean LOADS. Nothing in Lean hashes anything: it is a label: what it is worth is what the hold of that sum in a sandbox is worth. -/
noncomputable def Try.pinned : Pinned := { name := "ythfnaaeddlnckaa", sum := "7c07f038bdc5ec1734c4d4f66dae2f9e0d02cd67ccc638b26f140031fd8646a1", checked := Try.checked }
namespace Rows
def none {H : Type} : Left H := { results := [], args := [] }

/-- 'tallystonelaw58.ShellNames': WHATEVER THE INPUT: true; the input reads as it did. -/
def shellNamesSpec : ChangeSpec := { name := "shellNames", fn := fun _ => fun
  | [d] => { results := [.lit (.bool true)], args := [d] }
  | _ => none }
def shellNamesRow : OpenClaim := { program := "ythfnaaeddlnckaa", sum := "7c07f038bdc5ec1734c4d4f66dae2f9e0d02cd67ccc638b26f140031fd8646a1", func := "tallystone/tallystonelaw58.ShellNames", spec := "shellNames", plainKeys := false, apart := false }
def ShellNamesSaid : Prop := shellNamesRow.holds Try.pinned (OpenSpec.ofChange shellNamesSpec)

/-- ITS FALSE NEIGHBOUR: 'it returns false'. Refute it at one input. -/
def shellNamesWrong : ChangeSpec := { name := "shellNames", fn := fun _ => fun
  | [d] => { results := [.lit (.bool false)], args := [d] }
  | _ => none }
def ShellNamesWrongFalsely : Prop := shellNamesRow.holds Try.pinned (OpenSpec.ofChange shellNamesWrong)

/-- 'tallystonelaw52.NoteMake': WHATEVER THE INPUT: true; the input reads as it did. -/
def noteMakeSpec : ChangeSpec := { name := "noteMake", fn := fun _ => fun
  | [d1, d2, d3] => { results := [.lit (.bool true)], args := [d1, d2, d3] }
  | _ => none }
def noteMakeRow : OpenClaim := { program := "ythfnaaeddlnckaa", sum := "7c07f038bdc5ec1734c4d4f66dae2f9e0d02cd67ccc638b26f140031fd8646a1", func := "tallystone/tallystonelaw52.NoteMake", spec := "noteMake", unfollowed := true, recurses := true, plainKeys := false, apart := false }
def NoteMakeSaid : Prop := noteMakeRow.holds Try.pinned (OpenSpec.ofChange noteMakeSpec)

/-- ITS FALSE NEIGHBOUR: 'it returns false'. Refute it at one input. -/
def noteMakeWrong : ChangeSpec := { name := "noteMake", fn := fun _ => fun
  | [d1, d2, d3] => { results := [.lit (.bool false)], args := [d1, d2, d3] }
  | _ => none }
def NoteMakeWrongFalsely : Prop := noteMakeRow.holds Try.pinned (OpenSpec.ofChange noteMakeWrong)

/-- 'tallystonelaw52.NoteExplains': WHATEVER THE INPUT: true; the input reads as it did. -/
def noteExplainsSpec : ChangeSpec := { name := "noteExplains", fn := fun _ => fun
  | [d1, d2, d3] => { results := [.lit (.bool true)], args := [d1, d2, d3] }
  | _ => none }
def noteExplainsRow : OpenClaim := { program := "ythfnaaeddlnckaa", sum := "7c07f038bdc5ec1734c4d4f66dae2f9e0d02cd67ccc638b26f140031fd8646a1", func := "tallystone/tallystonelaw52.NoteExplains", spec := "noteExplains", unfollowed := true, recurses := true, plainKeys := false, apart := false }
def NoteExplainsSaid : Prop := noteExplainsRow.holds Try.pinned (OpenSpec.ofChange noteExplainsSpec)

/-- ITS FALSE NEIGHBOUR: 'it returns false'. Refute it at one input. -/
def noteExplainsWrong : ChangeSpec := { name := "noteExplains", fn := fun _ => fun
  | [d1, d2, d3] => { results := [.lit (.bool false)], args := [d1, d2, d3] }
  | _ => none }
def NoteExplainsWrongFalsely : Prop := noteExplainsRow.holds Try.pinned (OpenSpec.ofChange noteExplainsWrong)

/-- 'tallystonelaw52.NoteSame': WHATEVER THE INPUT: true; the input reads as it did. -/
def noteSameSpec : ChangeSpec := { name := "noteSame", fn := fun _ => fun
  | [d1, d2, d3] => { results := [.lit (.bool true)], args := [d1, d2, d3] }
  | _ => none }
def noteSameRow : OpenClaim := { program := "ythfnaaeddlnckaa", sum := "7c07f038bdc5ec1734c4d4f66dae2f9e0d02cd67ccc638b26f140031fd8646a1", func := "tallystone/tallystonelaw52.NoteSame", spec := "noteSame", unfollowed := true, recurses := true, plainKeys := false, apart := false }
def NoteSameSaid : Prop := noteSameRow.holds Try.pinned (OpenSpec.ofChange noteSameSpec)

/-- ITS FALSE NEIGHBOUR: 'it returns false'. Refute it at one input. -/
def noteSameWrong : ChangeSpec := { name := "noteSame", fn := fun _ => fun
  | [d1, d2, d3] => { results := [.lit (.bool false)], args := [d1, d2, d3] }
  | _ => none }
def NoteSameWrongFalsely : Prop := noteSameRow.holds Try.pinned (OpenSpec.ofChange noteSameWrong)

/-- 'tallystonelaw52.NoteAll': WHATEVER THE INPUT: true; the input reads as it did. -/
def noteAllSpec : ChangeSpec := { name := "noteAll", fn := fun _ => fun
  | [d1, d2] => { results := [.lit (.bool true)], args := [d1, d2] }
  | _ => none }
def noteAllRow : OpenClaim := { program := "ythfnaaeddlnckaa", sum := "7c07f038bdc5ec1734c4d4f66dae2f9e0d02cd67ccc638b26f140031fd8646a1", func := "tallystone/tallystonelaw52.NoteAll", spec := "noteAll", unfollowed := true, recurses := true, plainKeys := false, apart := false }
def NoteAllSaid : Prop := noteAllRow.holds Try.pinned (OpenSpec.ofChange noteAllSpec)

/-- ITS FALSE NEIGHBOUR: 'it returns false'. Refute it at one input. -/
def noteAllWrong : ChangeSpec := { name := "noteAll", fn := fun _ => fun
  | [d1, d2] => { results := [.lit (.bool false)], args := [d1, d2] }
  | _ => none }
def NoteAllWrongFalsely : Prop := noteAllRow.holds Try.pinned (OpenSpec.ofChange noteAllWrong)

/-- 'tallystonelaw52.NoteBalance': WHATEVER THE INPUT: true; the input reads as it did. -/
def noteBalanceSpec : ChangeSpec := { name := "noteBalance", fn := fun _ => fun
  | [d1, d2] => { results := [.lit (.bool true)], args := [d1, d2] }
  | _ => none }
def noteBalanceRow : OpenClaim := { program := "ythfnaaeddlnckaa", sum := "7c07f038bdc5ec1734c4d4f66dae2f9e0d02cd67ccc638b26f140031fd8646a1", func := "tallystone/tallystonelaw52.NoteBalance", spec := "noteBalance", unfollowed := true, recurses := true, plainKeys := false, apart := false }
def NoteBalanceSaid : Prop := noteBalanceRow.holds Try.pinned (OpenSpec.ofChange noteBalanceSpec)

/-- ITS FALSE NEIGHBOUR: 'it returns false'. Refute it at one input. -/
def noteBalanceWrong : ChangeSpec := { name := "noteBalance", fn := fun _ => fun
  | [d1, d2] => { results := [.lit (.bool false)], args := [d1, d2] }
  | _ => none }
def NoteBalanceWrongFalsely : Prop := noteBalanceRow.holds Try.pinned (OpenSpec.ofChange noteBalanceWrong)

/-- 'tallystonelaw52.NoteOrder': WHATEVER THE INPUT: true; the input reads as it did. -/
def noteOrderSpec : ChangeSpec := { name := "noteOrder", fn := fun _ => fun
  | [d1, d2] => { results := [.lit (.bool true)], args := [d1, d2] }
  | _ => none }
def noteOrderRow : OpenClaim := { program := "ythfnaaeddlnckaa", sum := "7c07f038bdc5ec1734c4d4f66dae2f9e0d02cd67ccc638b26f140031fd8646a1", func := "tallystone/tallystonelaw52.NoteOrder", spec := "noteOrder", unfollowed := true, recurses := true, plainKeys := false, apart := false }
def NoteOrderSaid : Prop := noteOrderRow.holds Try.pinned (OpenSpec.ofChange noteOrderSpec)

/-- ITS FALSE NEIGHBOUR: 'it returns false'. Refute it at one input. -/
def noteOrderWrong : ChangeSpec := { name := "noteOrder", fn := fun _ => fun
  | [d1, d2] => { results := [.lit (.bool false)], args := [d1, d2] }
  | _ => none }
def NoteOrderWrongFalsely : Prop := noteOrderRow.holds Try.pinned (OpenSpec.ofChange noteOrderWrong)

/- THE SECOND FORM. 'bulk': how many values and letters a reading holds, each counted each time it is reached (what is shared counts as often as it is met; a slice's spare places count too). A statement '..UptoSaid' is the law's where the arguments, and the package variables that the reading takes, are together of bulk at most 1048576: NARROWER than '..Said'. Prove '..Said' where nothing that the law and all that it calls make is longer than what came in: it says more and counts as full. Else prove '..UptoSaid'. A law counts once. -/
mutual
def uptoBulk {H : Type} : DataW H → Nat
  | .lit (.string bytes) => bytes.length + 1
  | .lit _ => 1
  | .nil => 1
  | .ptr d => uptoBulk d + 1
  | .slice elems spare => uptoBulkAll elems + uptoBulkAll spare + 1
  | .agg parts => uptoBulkAll parts + 1
  | .iface _ d => uptoBulk d + 1
  | .map entries => uptoBulkEntries entries + 1
  | .held _ => 1
def uptoBulkAll {H : Type} : List (DataW H) → Nat
  | [] => 0
  | d :: r => uptoBulk d + uptoBulkAll r
def uptoBulkEntries {H : Type} : List (Lit × DataW H) → Nat
  | [] => 0
  | x :: r => uptoBulkEntry x + uptoBulkEntries r
def uptoBulkEntry {H : Type} : Lit × DataW H → Nat
  | (.string bytes, d) => bytes.length + uptoBulk d + 1
  | (_, d) => uptoBulk d + 1
 end
def uptoSmall : (H : Type) → List (DataW H) → Bool := fun _ ds => decide (uptoBulkAll ds ≤ 1048576)
def OpenSpec.upto (s : _root_.Go.ChangeSpec) : _root_.Go.OpenSpec := { _root_.Go.OpenSpec.ofChange s with cond := some uptoSmall }

/-- 'tallystonelaw58.ShellNames', WHERE WHAT IT READS IS OF BULK AT MOST 1048576: true; the input reads as it did. -/
def shellNamesUptoRow : OpenClaim := { program := "ythfnaaeddlnckaa", sum := "7c07f038bdc5ec1734c4d4f66dae2f9e0d02cd67ccc638b26f140031fd8646a1", func := "tallystone/tallystonelaw58.ShellNames", spec := "shellNames", plainKeys := false, apart := false, narrowed := true }
def ShellNamesUptoSaid : Prop := shellNamesUptoRow.holds Try.pinned (OpenSpec.upto shellNamesSpec)

/-- 'tallystonelaw52.NoteMake', WHERE WHAT IT READS IS OF BULK AT MOST 1048576: true; the input reads as it did. -/
def noteMakeUptoRow : OpenClaim := { program := "ythfnaaeddlnckaa", sum := "7c07f038bdc5ec1734c4d4f66dae2f9e0d02cd67ccc638b26f140031fd8646a1", func := "tallystone/tallystonelaw52.NoteMake", spec := "noteMake", unfollowed := true, recurses := true, plainKeys := false, apart := false, narrowed := true }
def NoteMakeUptoSaid : Prop := noteMakeUptoRow.holds Try.pinned (OpenSpec.upto noteMakeSpec)

/-- 'tallystonelaw52.NoteExplains', WHERE WHAT IT READS IS OF BULK AT MOST 1048576: true; the input reads as it did. -/
def noteExplainsUptoRow : OpenClaim := { program := "ythfnaaeddlnckaa", sum := "7c07f038bdc5ec1734c4d4f66dae2f9e0d02cd67ccc638b26f140031fd8646a1", func := "tallystone/tallystonelaw52.NoteExplains", spec := "noteExplains", unfollowed := true, recurses := true, plainKeys := false, apart := false, narrowed := true }
def NoteExplainsUptoSaid : Prop := noteExplainsUptoRow.holds Try.pinned (OpenSpec.upto noteExplainsSpec)

/-- 'tallystonelaw52.NoteSame', WHERE WHAT IT READS IS OF BULK AT MOST 1048576: true; the input reads as it did. -/
def noteSameUptoRow : OpenClaim := { program := "ythfnaaeddlnckaa", sum := "7c07f038bdc5ec1734c4d4f66dae2f9e0d02cd67ccc638b26f140031fd8646a1", func := "tallystone/tallystonelaw52.NoteSame", spec := "noteSame", unfollowed := true, recurses := true, plainKeys := false, apart := false, narrowed := true }
def NoteSameUptoSaid : Prop := noteSameUptoRow.holds Try.pinned (OpenSpec.upto noteSameSpec)

/-- 'tallystonelaw52.NoteAll', WHERE WHAT IT READS IS OF BULK AT MOST 1048576: true; the input reads as it did. -/
def noteAllUptoRow : OpenClaim := { program := "ythfnaaeddlnckaa", sum := "7c07f038bdc5ec1734c4d4f66dae2f9e0d02cd67ccc638b26f140031fd8646a1", func := "tallystone/tallystonelaw52.NoteAll", spec := "noteAll", unfollowed := true, recurses := true, plainKeys := false, apart := false, narrowed := true }
def NoteAllUptoSaid : Prop := noteAllUptoRow.holds Try.pinned (OpenSpec.upto noteAllSpec)

/-- 'tallystonelaw52.NoteBalance', WHERE WHAT IT READS IS OF BULK AT MOST 1048576: true; the input reads as it did. -/
def noteBalanceUptoRow : OpenClaim := { program := "ythfnaaeddlnckaa", sum := "7c07f038bdc5ec1734c4d4f66dae2f9e0d02cd67ccc638b26f140031fd8646a1", func := "tallystone/tallystonelaw52.NoteBalance", spec := "noteBalance", unfollowed := true, recurses := true, plainKeys := false, apart := false, narrowed := true }
def NoteBalanceUptoSaid : Prop := noteBalanceUptoRow.holds Try.pinned (OpenSpec.upto noteBalanceSpec)

/-- 'tallystonelaw52.NoteOrder', WHERE WHAT IT READS IS OF BULK AT MOST 1048576: true; the input reads as it did. -/
def noteOrderUptoRow : OpenClaim := { program := "ythfnaaeddlnckaa", sum := "7c07f038bdc5ec1734c4d4f66dae2f9e0d02cd67ccc638b26f140031fd8646a1", func := "tallystone/tallystonelaw52.NoteOrder", spec := "noteOrder", unfollowed := true, recurses := true, plainKeys := false, apart := false, narrowed := true }
def NoteOrderUptoSaid : Prop := noteOrderUptoRow.holds Try.pinned (OpenSpec.upto noteOrderSpec)

end Rows
end Go.Proofs.Ythfnaaeddlnckaa
