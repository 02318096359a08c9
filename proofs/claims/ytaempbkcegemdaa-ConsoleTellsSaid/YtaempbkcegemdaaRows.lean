/-
  No cell of these rows narrows 'for every input' (looked for: loops, veiled, ifaces, maps, wideKeys, modest, calm, conditions, laid).
  DERIVED. THE GIVEN ROWS OF THIS SEAT. 3 by the template 'for every input the law returns true; each argument reads behind the call as it read before'; 0 by the template 'total and deterministic' (their statements: YtaempbkcegemdaaTotals.lean).
  GIVEN WITH THE SEED: the statements are not yours to turn. If you find one false, say at which input.
  Laid BY PROGRAM, IN A SANDBOX (cutbox-rows.mjs): the forced cells as the released guide's own fill.sh prints them over the translation 8e36a55f6241ea6a… (all of the seat's roots in one cut). By AI agents, Wed Nov 11 2026. No macro, syntax, notation, axiom, sorry.
-/
import Derived.Test.YtaempbkcegemdaaChecked
import GoSem.Claim
import GoSem.ClaimJoined
import GoSem.ClaimMapViews
import Derived.JoinedTies
import Derived.KernelRfl
namespace Go.Proofs.Ytaempbkcegemdaa
/- THE CELL 'sum', in the pinned program and in every row, IS THE sha256 OF THE DUMP (.gsa) THAT YtaempbkcegemdaaProg.lean LOADS. Nothing in Lean hashes anything: it is a label: what it is worth is what the hold of that sum in a sandbox is worth. -/
noncomputable def Try.pinned : Pinned := { name := "ytaempbkcegemdaa", sum := "8e36a55f6241ea6a9474d54562d9aeedabe4015fc63e1e0264f875c6cd061d30", checked := Try.checked }
namespace Rows
def none {H : Type} : Left H := { results := [], args := [] }

/-- 'vmfleetlaw7.ConsoleFull': WHATEVER THE INPUT: true; the input reads as it did. -/
def consoleFullSpec : ChangeSpec := { name := "consoleFull", fn := fun _ => fun
  | [d1, d2] => { results := [.lit (.bool true)], args := [d1, d2] }
  | _ => none }
def consoleFullRow : OpenClaim := { program := "ytaempbkcegemdaa", sum := "8e36a55f6241ea6a9474d54562d9aeedabe4015fc63e1e0264f875c6cd061d30", func := "vmfleet/vmfleetlaw7.ConsoleFull", spec := "consoleFull", apart := false }
def ConsoleFullSaid : Prop := consoleFullRow.holds Try.pinned (OpenSpec.ofChange consoleFullSpec)

/-- ITS FALSE NEIGHBOUR: 'it returns false'. Refute it at one input. -/
def consoleFullWrong : ChangeSpec := { name := "consoleFull", fn := fun _ => fun
  | [d1, d2] => { results := [.lit (.bool false)], args := [d1, d2] }
  | _ => none }
def ConsoleFullWrongFalsely : Prop := consoleFullRow.holds Try.pinned (OpenSpec.ofChange consoleFullWrong)

/-- 'vmfleetlaw7.ConsoleTells': WHATEVER THE INPUT: true; the input reads as it did. -/
def consoleTellsSpec : ChangeSpec := { name := "consoleTells", fn := fun _ => fun
  | [d1, d2, d3, d4] => { results := [.lit (.bool true)], args := [d1, d2, d3, d4] }
  | _ => none }
def consoleTellsRow : OpenClaim := { program := "ytaempbkcegemdaa", sum := "8e36a55f6241ea6a9474d54562d9aeedabe4015fc63e1e0264f875c6cd061d30", func := "vmfleet/vmfleetlaw7.ConsoleTells", spec := "consoleTells", apart := false }
def ConsoleTellsSaid : Prop := consoleTellsRow.holds Try.pinned (OpenSpec.ofChange consoleTellsSpec)

/-- ITS FALSE NEIGHBOUR: 'it returns false'. Refute it at one input. -/
def consoleTellsWrong : ChangeSpec := { name := "consoleTells", fn := fun _ => fun
  | [d1, d2, d3, d4] => { results := [.lit (.bool false)], args := [d1, d2, d3, d4] }
  | _ => none }
def ConsoleTellsWrongFalsely : Prop := consoleTellsRow.holds Try.pinned (OpenSpec.ofChange consoleTellsWrong)

/-- 'vmfleetlaw7.ConsoleQueues': WHATEVER THE INPUT: true; the input reads as it did. -/
def consoleQueuesSpec : ChangeSpec := { name := "consoleQueues", fn := fun _ => fun
  | [d] => { results := [.lit (.bool true)], args := [d] }
  | _ => none }
def consoleQueuesRow : OpenClaim := { program := "ytaempbkcegemdaa", sum := "8e36a55f6241ea6a9474d54562d9aeedabe4015fc63e1e0264f875c6cd061d30", func := "vmfleet/vmfleetlaw7.ConsoleQueues", spec := "consoleQueues", apart := false }
def ConsoleQueuesSaid : Prop := consoleQueuesRow.holds Try.pinned (OpenSpec.ofChange consoleQueuesSpec)

/-- ITS FALSE NEIGHBOUR: 'it returns false'. Refute it at one input. -/
def consoleQueuesWrong : ChangeSpec := { name := "consoleQueues", fn := fun _ => fun
  | [d] => { results := [.lit (.bool false)], args := [d] }
  | _ => none }
def ConsoleQueuesWrongFalsely : Prop := consoleQueuesRow.holds Try.pinned (OpenSpec.ofChange consoleQueuesWrong)

/- THE SECOND FORM. 'bulk': how many values and letters a reading holds, each counted each time it is reached (what is shared counts as often as it is met; a slice's spare places count too). A statement '..UptoSaid' is the law's where the arguments, and the package variables that the reading takes, are together of bulk at most 1048576: NARROWER than '..Said'. Prove '..Said' where nothing that the law and all that it calls make is longer than what came in: it says more and counts as full. Else prove '..UptoSaid'. A law counts once. -/
mutual
def uptoBulk {H : Type} : DataW H → Nat
  | .lit (.string bytes) => bytes.length + 1
  | .lit _ => 1
  | .nil => 1
  | .ptr d => uptoBulk d + 1
  | .slice elems spare => uptoBulkAll elems + uptoBulkAll spare + 1
  | .agg parts => uptoBulkAll parts + 1
  | .iface _ d => uptoBulk d + 1
  | .map entries => uptoBulkEntries entries + 1
  | .held _ => 1
def uptoBulkAll {H : Type} : List (DataW H) → Nat
  | [] => 0
  | d :: r => uptoBulk d + uptoBulkAll r
def uptoBulkEntries {H : Type} : List (Lit × DataW H) → Nat
  | [] => 0
  | x :: r => uptoBulkEntry x + uptoBulkEntries r
def uptoBulkEntry {H : Type} : Lit × DataW H → Nat
  | (.string bytes, d) => bytes.length + uptoBulk d + 1
  | (_, d) => uptoBulk d + 1
 end
def uptoSmall : (H : Type) → List (DataW H) → Bool := fun _ ds => decide (uptoBulkAll ds ≤ 1048576)
def OpenSpec.upto (s : _root_.Go.ChangeSpec) : _root_.Go.OpenSpec := { _root_.Go.OpenSpec.ofChange s with cond := some uptoSmall }

/-- 'vmfleetlaw7.ConsoleFull', WHERE WHAT IT READS IS OF BULK AT MOST 1048576: true; the input reads as it did. -/
def consoleFullUptoRow : OpenClaim := { program := "ytaempbkcegemdaa", sum := "8e36a55f6241ea6a9474d54562d9aeedabe4015fc63e1e0264f875c6cd061d30", func := "vmfleet/vmfleetlaw7.ConsoleFull", spec := "consoleFull", apart := false, narrowed := true }
def ConsoleFullUptoSaid : Prop := consoleFullUptoRow.holds Try.pinned (OpenSpec.upto consoleFullSpec)

/-- 'vmfleetlaw7.ConsoleTells', WHERE WHAT IT READS IS OF BULK AT MOST 1048576: true; the input reads as it did. -/
def consoleTellsUptoRow : OpenClaim := { program := "ytaempbkcegemdaa", sum := "8e36a55f6241ea6a9474d54562d9aeedabe4015fc63e1e0264f875c6cd061d30", func := "vmfleet/vmfleetlaw7.ConsoleTells", spec := "consoleTells", apart := false, narrowed := true }
def ConsoleTellsUptoSaid : Prop := consoleTellsUptoRow.holds Try.pinned (OpenSpec.upto consoleTellsSpec)

/-- 'vmfleetlaw7.ConsoleQueues', WHERE WHAT IT READS IS OF BULK AT MOST 1048576: true; the input reads as it did. -/
def consoleQueuesUptoRow : OpenClaim := { program := "ytaempbkcegemdaa", sum := "8e36a55f6241ea6a9474d54562d9aeedabe4015fc63e1e0264f875c6cd061d30", func := "vmfleet/vmfleetlaw7.ConsoleQueues", spec := "consoleQueues", apart := false, narrowed := true }
def ConsoleQueuesUptoSaid : Prop := consoleQueuesUptoRow.holds Try.pinned (OpenSpec.upto consoleQueuesSpec)

end Rows
end Go.Proofs.Ytaempbkcegemdaa
