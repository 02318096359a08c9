/-
  No cell of these rows narrows 'for every input' (looked for: loops, veiled, ifaces, maps, wideKeys, modest, calm, conditions, laid).
  DERIVED. THE GIVEN ROWS OF THIS SEAT. 3 by the template 'for every input the law returns true; each argument reads behind the call as it read before'; 0 by the template 'total and deterministic' (their statements: YtfomfokgibijjaaTotals.lean).
  GIVEN WITH THE SEED: the statements are not yours to turn. If you find one false, say at which input.
  Laid BY PROGRAM, IN A SANDBOX (cutbox-rows.mjs): the forced cells as the released guide's own fill.sh prints them over the translation 21a1937029fd9cdc… (all of the seat's roots in one cut). By AI agents, Wed Nov 11 2026. No macro, syntax, notation, axiom, sorry.
-/
import Derived.Test.YtfomfokgibijjaaChecked
import GoSem.Claim
import GoSem.ClaimJoined
import GoSem.ClaimMapViews
import Derived.JoinedTies
import Derived.KernelRfl
namespace Go.Proofs.Ytfomfokgibijjaa
/- THE CELL 'sum', in the pinned program and in every row, IS THE sha256 OF THE DUMP (.gsa) THAT YtfomfokgibijjaaProg.lean LOADS. Nothing in Lean hashes anything: it is a label: what it is worth is what the hold of that sum in a sandbox is worth. -/
noncomputable def Try.pinned : Pinned := { name := "ytfomfokgibijjaa", sum := "21a1937029fd9cdc45e8cdefa3d4564de0c1d1f33dbdaae7e8734600c0ffc47c", checked := Try.checked }
namespace Rows
def none {H : Type} : Left H := { results := [], args := [] }

/-- 'vmfleetlaw32.MirrorTells': WHATEVER THE INPUT: true; the input reads as it did. -/
def mirrorTellsSpec : ChangeSpec := { name := "mirrorTells", fn := fun _ => fun
  | [d1, d2, d3, d4] => { results := [.lit (.bool true)], args := [d1, d2, d3, d4] }
  | _ => none }
def mirrorTellsRow : OpenClaim := { program := "ytfomfokgibijjaa", sum := "21a1937029fd9cdc45e8cdefa3d4564de0c1d1f33dbdaae7e8734600c0ffc47c", func := "vmfleet/vmfleetlaw32.MirrorTells", spec := "mirrorTells", inPlace := ["internal/abi.NoEscape", "internal/bytealg.MakeNoZero"], apart := false }
def MirrorTellsSaid : Prop := mirrorTellsRow.holds Try.pinned (OpenSpec.ofChange mirrorTellsSpec)

/-- ITS FALSE NEIGHBOUR: 'it returns false'. Refute it at one input. -/
def mirrorTellsWrong : ChangeSpec := { name := "mirrorTells", fn := fun _ => fun
  | [d1, d2, d3, d4] => { results := [.lit (.bool false)], args := [d1, d2, d3, d4] }
  | _ => none }
def MirrorTellsWrongFalsely : Prop := mirrorTellsRow.holds Try.pinned (OpenSpec.ofChange mirrorTellsWrong)

/-- 'vmfleetlaw32.MirrorKeeps': WHATEVER THE INPUT: true; the input reads as it did. -/
def mirrorKeepsSpec : ChangeSpec := { name := "mirrorKeeps", fn := fun _ => fun
  | [d1, d2] => { results := [.lit (.bool true)], args := [d1, d2] }
  | _ => none }
def mirrorKeepsRow : OpenClaim := { program := "ytfomfokgibijjaa", sum := "21a1937029fd9cdc45e8cdefa3d4564de0c1d1f33dbdaae7e8734600c0ffc47c", func := "vmfleet/vmfleetlaw32.MirrorKeeps", spec := "mirrorKeeps", inPlace := ["internal/abi.NoEscape", "internal/bytealg.MakeNoZero"], apart := false }
def MirrorKeepsSaid : Prop := mirrorKeepsRow.holds Try.pinned (OpenSpec.ofChange mirrorKeepsSpec)

/-- ITS FALSE NEIGHBOUR: 'it returns false'. Refute it at one input. -/
def mirrorKeepsWrong : ChangeSpec := { name := "mirrorKeeps", fn := fun _ => fun
  | [d1, d2] => { results := [.lit (.bool false)], args := [d1, d2] }
  | _ => none }
def MirrorKeepsWrongFalsely : Prop := mirrorKeepsRow.holds Try.pinned (OpenSpec.ofChange mirrorKeepsWrong)

/-- 'vmfleetlaw32.MirrorParts': WHATEVER THE INPUT: true; the input reads as it did. -/
def mirrorPartsSpec : ChangeSpec := { name := "mirrorParts", fn := fun _ => fun
  | [d1, d2] => { results := [.lit (.bool true)], args := [d1, d2] }
  | _ => none }
def mirrorPartsRow : OpenClaim := { program := "ytfomfokgibijjaa", sum := "21a1937029fd9cdc45e8cdefa3d4564de0c1d1f33dbdaae7e8734600c0ffc47c", func := "vmfleet/vmfleetlaw32.MirrorParts", spec := "mirrorParts", inPlace := ["internal/abi.NoEscape", "internal/bytealg.MakeNoZero"], apart := false }
def MirrorPartsSaid : Prop := mirrorPartsRow.holds Try.pinned (OpenSpec.ofChange mirrorPartsSpec)

/-- ITS FALSE NEIGHBOUR: 'it returns false'. Refute it at one input. -/
def mirrorPartsWrong : ChangeSpec := { name := "mirrorParts", fn := fun _ => fun
  | [d1, d2] => { results := [.lit (.bool false)], args := [d1, d2] }
  | _ => none }
def MirrorPartsWrongFalsely : Prop := mirrorPartsRow.holds Try.pinned (OpenSpec.ofChange mirrorPartsWrong)

/- THE SECOND FORM. 'bulk': how many values and letters a reading holds, each counted each time it is reached (what is shared counts as often as it is met; a slice's spare places count too). A statement '..UptoSaid' is the law's where the arguments, and the package variables that the reading takes, are together of bulk at most 1048576: NARROWER than '..Said'. Prove '..Said' where nothing that the law and all that it calls make is longer than what came in: it says more and counts as full. Else prove '..UptoSaid'. A law counts once. -/
mutual
def uptoBulk {H : Type} : DataW H → Nat
  | .lit (.string bytes) => bytes.length + 1
  | .lit _ => 1
  | .nil => 1
  | .ptr d => uptoBulk d + 1
  | .slice elems spare => uptoBulkAll elems + uptoBulkAll spare + 1
  | .agg parts => uptoBulkAll parts + 1
  | .iface _ d => uptoBulk d + 1
  | .map entries => uptoBulkEntries entries + 1
  | .held _ => 1
def uptoBulkAll {H : Type} : List (DataW H) → Nat
  | [] => 0
  | d :: r => uptoBulk d + uptoBulkAll r
def uptoBulkEntries {H : Type} : List (Lit × DataW H) → Nat
  | [] => 0
  | x :: r => uptoBulkEntry x + uptoBulkEntries r
def uptoBulkEntry {H : Type} : Lit × DataW H → Nat
  | (.string bytes, d) => bytes.length + uptoBulk d + 1
  | (_, d) => uptoBulk d + 1
 end
def uptoSmall : (H : Type) → List (DataW H) → Bool := fun _ ds => decide (uptoBulkAll ds ≤ 1048576)
def OpenSpec.upto (s : _root_.Go.ChangeSpec) : _root_.Go.OpenSpec := { _root_.Go.OpenSpec.ofChange s with cond := some uptoSmall }

/-- 'vmfleetlaw32.MirrorTells', WHERE WHAT IT READS IS OF BULK AT MOST 1048576: true; the input reads as it did. -/
def mirrorTellsUptoRow : OpenClaim := { program := "ytfomfokgibijjaa", sum := "21a1937029fd9cdc45e8cdefa3d4564de0c1d1f33dbdaae7e8734600c0ffc47c", func := "vmfleet/vmfleetlaw32.MirrorTells", spec := "mirrorTells", inPlace := ["internal/abi.NoEscape", "internal/bytealg.MakeNoZero"], apart := false, narrowed := true }
def MirrorTellsUptoSaid : Prop := mirrorTellsUptoRow.holds Try.pinned (OpenSpec.upto mirrorTellsSpec)

/-- 'vmfleetlaw32.MirrorKeeps', WHERE WHAT IT READS IS OF BULK AT MOST 1048576: true; the input reads as it did. -/
def mirrorKeepsUptoRow : OpenClaim := { program := "ytfomfokgibijjaa", sum := "21a1937029fd9cdc45e8cdefa3d4564de0c1d1f33dbdaae7e8734600c0ffc47c", func := "vmfleet/vmfleetlaw32.MirrorKeeps", spec := "mirrorKeeps", inPlace := ["internal/abi.NoEscape", "internal/bytealg.MakeNoZero"], apart := false, narrowed := true }
def MirrorKeepsUptoSaid : Prop := mirrorKeepsUptoRow.holds Try.pinned (OpenSpec.upto mirrorKeepsSpec)

/-- 'vmfleetlaw32.MirrorParts', WHERE WHAT IT READS IS OF BULK AT MOST 1048576: true; the input reads as it did. -/
def mirrorPartsUptoRow : OpenClaim := { program := "ytfomfokgibijjaa", sum := "21a1937029fd9cdc45e8cdefa3d4564de0c1d1f33dbdaae7e8734600c0ffc47c", func := "vmfleet/vmfleetlaw32.MirrorParts", spec := "mirrorParts", inPlace := ["internal/abi.NoEscape", "internal/bytealg.MakeNoZero"], apart := false, narrowed := true }
def MirrorPartsUptoSaid : Prop := mirrorPartsUptoRow.holds Try.pinned (OpenSpec.upto mirrorPartsSpec)

end Rows
end Go.Proofs.Ytfomfokgibijjaa
