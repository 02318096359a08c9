/-
  No cell of these rows narrows 'for every input' (looked for: loops, veiled, ifaces, maps, wideKeys, modest, calm, conditions, laid).
  DERIVED. THE GIVEN ROWS OF THIS SEAT. 3 by the template 'for every input the law returns true; each argument reads behind the call as it read before'; 0 by the template 'total and deterministic' (their statements: YtalfiiodioihdaaTotals.lean).
  GIVEN WITH THE SEED: the statements are not yours to turn. If you find one false, say at which input.
  Laid BY PROGRAM, IN A SANDBOX (cutbox-rows.mjs): the forced cells as the released guide's own fill.sh prints them over the translation 4217e30b4fea8032… (all of the seat's roots in one cut). By AI agents, Wed Nov 11 2026. No macro, syntax, notation, axiom, sorry.
-/
import Derived.Test.YtalfiiodioihdaaChecked
import GoSem.Claim
import GoSem.ClaimJoined
import GoSem.ClaimMapViews
import Derived.JoinedTies
import Derived.KernelRfl
namespace Go.Proofs.Ytalfiiodioihdaa
/- THE CELL 'sum', in the pinned program and in every row, IS THE sha256 OF THE DUMP (.gsa) THAT YtalfiiodioihdaaProg.lean LOADS. Nothing in Lean hashes anything: it is a label: what it is worth is what the hold of that sum in a sandbox is worth. -/
noncomputable def Try.pinned : Pinned := { name := "ytalfiiodioihdaa", sum := "4217e30b4fea803203ef3d5a66fa1cceec937f2c048ceb2f6bd0196594edf623", checked := Try.checked }
namespace Rows
def none {H : Type} : Left H := { results := [], args := [] }

/-- 'vmfleetlaw11.BalloonAsks': WHATEVER THE INPUT: true; the input reads as it did. -/
def balloonAsksSpec : ChangeSpec := { name := "balloonAsks", fn := fun _ => fun
  | [d1, d2] => { results := [.lit (.bool true)], args := [d1, d2] }
  | _ => none }
def balloonAsksRow : OpenClaim := { program := "ytalfiiodioihdaa", sum := "4217e30b4fea803203ef3d5a66fa1cceec937f2c048ceb2f6bd0196594edf623", func := "vmfleet/vmfleetlaw11.BalloonAsks", spec := "balloonAsks", inPlace := ["internal/abi.NoEscape", "internal/bytealg.MakeNoZero"], apart := false }
def BalloonAsksSaid : Prop := balloonAsksRow.holds Try.pinned (OpenSpec.ofChange balloonAsksSpec)

/-- ITS FALSE NEIGHBOUR: 'it returns false'. Refute it at one input. -/
def balloonAsksWrong : ChangeSpec := { name := "balloonAsks", fn := fun _ => fun
  | [d1, d2] => { results := [.lit (.bool false)], args := [d1, d2] }
  | _ => none }
def BalloonAsksWrongFalsely : Prop := balloonAsksRow.holds Try.pinned (OpenSpec.ofChange balloonAsksWrong)

/-- 'vmfleetlaw11.BalloonGives': WHATEVER THE INPUT: true; the input reads as it did. -/
def balloonGivesSpec : ChangeSpec := { name := "balloonGives", fn := fun _ => fun
  | [d1, d2, d3] => { results := [.lit (.bool true)], args := [d1, d2, d3] }
  | _ => none }
def balloonGivesRow : OpenClaim := { program := "ytalfiiodioihdaa", sum := "4217e30b4fea803203ef3d5a66fa1cceec937f2c048ceb2f6bd0196594edf623", func := "vmfleet/vmfleetlaw11.BalloonGives", spec := "balloonGives", inPlace := ["internal/abi.NoEscape", "internal/bytealg.MakeNoZero"], apart := false }
def BalloonGivesSaid : Prop := balloonGivesRow.holds Try.pinned (OpenSpec.ofChange balloonGivesSpec)

/-- ITS FALSE NEIGHBOUR: 'it returns false'. Refute it at one input. -/
def balloonGivesWrong : ChangeSpec := { name := "balloonGives", fn := fun _ => fun
  | [d1, d2, d3] => { results := [.lit (.bool false)], args := [d1, d2, d3] }
  | _ => none }
def BalloonGivesWrongFalsely : Prop := balloonGivesRow.holds Try.pinned (OpenSpec.ofChange balloonGivesWrong)

/-- 'vmfleetlaw11.BalloonTells': WHATEVER THE INPUT: true; the input reads as it did. -/
def balloonTellsSpec : ChangeSpec := { name := "balloonTells", fn := fun _ => fun
  | [d1, d2, d3, d4, d5, d6] => { results := [.lit (.bool true)], args := [d1, d2, d3, d4, d5, d6] }
  | _ => none }
def balloonTellsRow : OpenClaim := { program := "ytalfiiodioihdaa", sum := "4217e30b4fea803203ef3d5a66fa1cceec937f2c048ceb2f6bd0196594edf623", func := "vmfleet/vmfleetlaw11.BalloonTells", spec := "balloonTells", inPlace := ["internal/abi.NoEscape", "internal/bytealg.MakeNoZero"], apart := false }
def BalloonTellsSaid : Prop := balloonTellsRow.holds Try.pinned (OpenSpec.ofChange balloonTellsSpec)

/-- ITS FALSE NEIGHBOUR: 'it returns false'. Refute it at one input. -/
def balloonTellsWrong : ChangeSpec := { name := "balloonTells", fn := fun _ => fun
  | [d1, d2, d3, d4, d5, d6] => { results := [.lit (.bool false)], args := [d1, d2, d3, d4, d5, d6] }
  | _ => none }
def BalloonTellsWrongFalsely : Prop := balloonTellsRow.holds Try.pinned (OpenSpec.ofChange balloonTellsWrong)

/- THE SECOND FORM. 'bulk': how many values and letters a reading holds, each counted each time it is reached (what is shared counts as often as it is met; a slice's spare places count too). A statement '..UptoSaid' is the law's where the arguments, and the package variables that the reading takes, are together of bulk at most 1048576: NARROWER than '..Said'. Prove '..Said' where nothing that the law and all that it calls make is longer than what came in: it says more and counts as full. Else prove '..UptoSaid'. A law counts once. -/
mutual
def uptoBulk {H : Type} : DataW H → Nat
  | .lit (.string bytes) => bytes.length + 1
  | .lit _ => 1
  | .nil => 1
  | .ptr d => uptoBulk d + 1
  | .slice elems spare => uptoBulkAll elems + uptoBulkAll spare + 1
  | .agg parts => uptoBulkAll parts + 1
  | .iface _ d => uptoBulk d + 1
  | .map entries => uptoBulkEntries entries + 1
  | .held _ => 1
def uptoBulkAll {H : Type} : List (DataW H) → Nat
  | [] => 0
  | d :: r => uptoBulk d + uptoBulkAll r
def uptoBulkEntries {H : Type} : List (Lit × DataW H) → Nat
  | [] => 0
  | x :: r => uptoBulkEntry x + uptoBulkEntries r
def uptoBulkEntry {H : Type} : Lit × DataW H → Nat
  | (.string bytes, d) => bytes.length + uptoBulk d + 1
  | (_, d) => uptoBulk d + 1
 end
def uptoSmall : (H : Type) → List (DataW H) → Bool := fun _ ds => decide (uptoBulkAll ds ≤ 1048576)
def OpenSpec.upto (s : _root_.Go.ChangeSpec) : _root_.Go.OpenSpec := { _root_.Go.OpenSpec.ofChange s with cond := some uptoSmall }

/-- 'vmfleetlaw11.BalloonAsks', WHERE WHAT IT READS IS OF BULK AT MOST 1048576: true; the input reads as it did. -/
def balloonAsksUptoRow : OpenClaim := { program := "ytalfiiodioihdaa", sum := "4217e30b4fea803203ef3d5a66fa1cceec937f2c048ceb2f6bd0196594edf623", func := "vmfleet/vmfleetlaw11.BalloonAsks", spec := "balloonAsks", inPlace := ["internal/abi.NoEscape", "internal/bytealg.MakeNoZero"], apart := false, narrowed := true }
def BalloonAsksUptoSaid : Prop := balloonAsksUptoRow.holds Try.pinned (OpenSpec.upto balloonAsksSpec)

/-- 'vmfleetlaw11.BalloonGives', WHERE WHAT IT READS IS OF BULK AT MOST 1048576: true; the input reads as it did. -/
def balloonGivesUptoRow : OpenClaim := { program := "ytalfiiodioihdaa", sum := "4217e30b4fea803203ef3d5a66fa1cceec937f2c048ceb2f6bd0196594edf623", func := "vmfleet/vmfleetlaw11.BalloonGives", spec := "balloonGives", inPlace := ["internal/abi.NoEscape", "internal/bytealg.MakeNoZero"], apart := false, narrowed := true }
def BalloonGivesUptoSaid : Prop := balloonGivesUptoRow.holds Try.pinned (OpenSpec.upto balloonGivesSpec)

/-- 'vmfleetlaw11.BalloonTells', WHERE WHAT IT READS IS OF BULK AT MOST 1048576: true; the input reads as it did. -/
def balloonTellsUptoRow : OpenClaim := { program := "ytalfiiodioihdaa", sum := "4217e30b4fea803203ef3d5a66fa1cceec937f2c048ceb2f6bd0196594edf623", func := "vmfleet/vmfleetlaw11.BalloonTells", spec := "balloonTells", inPlace := ["internal/abi.NoEscape", "internal/bytealg.MakeNoZero"], apart := false, narrowed := true }
def BalloonTellsUptoSaid : Prop := balloonTellsUptoRow.holds Try.pinned (OpenSpec.upto balloonTellsSpec)

end Rows
end Go.Proofs.Ytalfiiodioihdaa
