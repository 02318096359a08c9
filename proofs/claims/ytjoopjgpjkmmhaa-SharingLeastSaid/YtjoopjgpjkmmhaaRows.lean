/-
  No cell of these rows narrows 'for every input' (looked for: loops, veiled, ifaces, maps, wideKeys, modest, calm, conditions, laid).
  DERIVED. THE GIVEN ROWS OF THIS SEAT. 5 by the template 'for every input the law returns true; each argument reads behind the call as it read before'; 0 by the template 'total and deterministic' (their statements: YtjoopjgpjkmmhaaTotals.lean).
  GIVEN WITH THE SEED: the statements are not yours to turn. If you find one false, say at which input.
  Laid BY PROGRAM, IN A SANDBOX (cutbox-rows.mjs): the forced cells as the released guide's own fill.sh prints them over the translation 02f9dd549a5475cc… (all of the seat's roots in one cut). By AI agents, Wed Nov 11 2026. No macro, syntax, notation, axiom, sorry.
-/
import Derived.Test.YtjoopjgpjkmmhaaChecked
import GoSem.Claim
import GoSem.ClaimJoined
import GoSem.ClaimMapViews
import Derived.JoinedTies
import Derived.KernelRfl
namespace Go.Proofs.Ytjoopjgpjkmmhaa
/- THE CELL 'sum', in the pinned program and in every row, IS THE sha256 OF THE DUMP (.gsa) THAT YtjoopjgpjkmmhaaProg.lean LOADS. Nothing in Lean hashes anything: it is a label: what it is worth is what the hold of that sum in a sandbox is worth. -/
noncomputable def Try.pinned : Pinned := { name := "ytjoopjgpjkmmhaa", sum := "02f9dd549a5475cc684eea9a1f3267d7aab0310e1a1ec8a042c37d26cb960f9a", checked := Try.checked }
namespace Rows
def none {H : Type} : Left H := { results := [], args := [] }

/-- 'vmfleetlaw35.SharingTells': WHATEVER THE INPUT: true; the input reads as it did. -/
def sharingTellsSpec : ChangeSpec := { name := "sharingTells", fn := fun _ => fun
  | [d1, d2, d3, d4, d5, d6] => { results := [.lit (.bool true)], args := [d1, d2, d3, d4, d5, d6] }
  | _ => none }
def sharingTellsRow : OpenClaim := { program := "ytjoopjgpjkmmhaa", sum := "02f9dd549a5475cc684eea9a1f3267d7aab0310e1a1ec8a042c37d26cb960f9a", func := "vmfleet/vmfleetlaw35.SharingTells", spec := "sharingTells", inPlace := ["internal/bytealg.CountString", "internal/bytealg.IndexByteString", "internal/bytealg.IndexString", "internal/abi.NoEscape", "internal/bytealg.MakeNoZero"], named := ["internal/bytealg.MaxLen"], apart := false }
def SharingTellsSaid : Prop := sharingTellsRow.holds Try.pinned (OpenSpec.ofChange sharingTellsSpec)

/-- ITS FALSE NEIGHBOUR: 'it returns false'. Refute it at one input. -/
def sharingTellsWrong : ChangeSpec := { name := "sharingTells", fn := fun _ => fun
  | [d1, d2, d3, d4, d5, d6] => { results := [.lit (.bool false)], args := [d1, d2, d3, d4, d5, d6] }
  | _ => none }
def SharingTellsWrongFalsely : Prop := sharingTellsRow.holds Try.pinned (OpenSpec.ofChange sharingTellsWrong)

/-- 'vmfleetlaw35.SharingReached': WHATEVER THE INPUT: true; the input reads as it did. -/
def sharingReachedSpec : ChangeSpec := { name := "sharingReached", fn := fun _ => fun
  | [d1, d2, d3, d4, d5] => { results := [.lit (.bool true)], args := [d1, d2, d3, d4, d5] }
  | _ => none }
def sharingReachedRow : OpenClaim := { program := "ytjoopjgpjkmmhaa", sum := "02f9dd549a5475cc684eea9a1f3267d7aab0310e1a1ec8a042c37d26cb960f9a", func := "vmfleet/vmfleetlaw35.SharingReached", spec := "sharingReached", inPlace := ["internal/bytealg.CountString", "internal/bytealg.IndexByteString", "internal/bytealg.IndexString", "internal/abi.NoEscape", "internal/bytealg.MakeNoZero"], named := ["internal/bytealg.MaxLen"], apart := false }
def SharingReachedSaid : Prop := sharingReachedRow.holds Try.pinned (OpenSpec.ofChange sharingReachedSpec)

/-- ITS FALSE NEIGHBOUR: 'it returns false'. Refute it at one input. -/
def sharingReachedWrong : ChangeSpec := { name := "sharingReached", fn := fun _ => fun
  | [d1, d2, d3, d4, d5] => { results := [.lit (.bool false)], args := [d1, d2, d3, d4, d5] }
  | _ => none }
def SharingReachedWrongFalsely : Prop := sharingReachedRow.holds Try.pinned (OpenSpec.ofChange sharingReachedWrong)

/-- 'vmfleetlaw35.SharingKeeps': WHATEVER THE INPUT: true; the input reads as it did. -/
def sharingKeepsSpec : ChangeSpec := { name := "sharingKeeps", fn := fun _ => fun
  | [d] => { results := [.lit (.bool true)], args := [d] }
  | _ => none }
def sharingKeepsRow : OpenClaim := { program := "ytjoopjgpjkmmhaa", sum := "02f9dd549a5475cc684eea9a1f3267d7aab0310e1a1ec8a042c37d26cb960f9a", func := "vmfleet/vmfleetlaw35.SharingKeeps", spec := "sharingKeeps", inPlace := ["internal/bytealg.CountString", "internal/bytealg.IndexByteString", "internal/bytealg.IndexString", "internal/abi.NoEscape", "internal/bytealg.MakeNoZero"], named := ["internal/bytealg.MaxLen"], apart := false }
def SharingKeepsSaid : Prop := sharingKeepsRow.holds Try.pinned (OpenSpec.ofChange sharingKeepsSpec)

/-- ITS FALSE NEIGHBOUR: 'it returns false'. Refute it at one input. -/
def sharingKeepsWrong : ChangeSpec := { name := "sharingKeeps", fn := fun _ => fun
  | [d] => { results := [.lit (.bool false)], args := [d] }
  | _ => none }
def SharingKeepsWrongFalsely : Prop := sharingKeepsRow.holds Try.pinned (OpenSpec.ofChange sharingKeepsWrong)

/-- 'vmfleetlaw35.SharingLeast': WHATEVER THE INPUT: true; the input reads as it did. -/
def sharingLeastSpec : ChangeSpec := { name := "sharingLeast", fn := fun _ => fun
  | [d1, d2] => { results := [.lit (.bool true)], args := [d1, d2] }
  | _ => none }
def sharingLeastRow : OpenClaim := { program := "ytjoopjgpjkmmhaa", sum := "02f9dd549a5475cc684eea9a1f3267d7aab0310e1a1ec8a042c37d26cb960f9a", func := "vmfleet/vmfleetlaw35.SharingLeast", spec := "sharingLeast", inPlace := ["internal/bytealg.CountString", "internal/bytealg.IndexByteString", "internal/bytealg.IndexString", "internal/abi.NoEscape", "internal/bytealg.MakeNoZero"], named := ["internal/bytealg.MaxLen"], apart := false }
def SharingLeastSaid : Prop := sharingLeastRow.holds Try.pinned (OpenSpec.ofChange sharingLeastSpec)

/-- ITS FALSE NEIGHBOUR: 'it returns false'. Refute it at one input. -/
def sharingLeastWrong : ChangeSpec := { name := "sharingLeast", fn := fun _ => fun
  | [d1, d2] => { results := [.lit (.bool false)], args := [d1, d2] }
  | _ => none }
def SharingLeastWrongFalsely : Prop := sharingLeastRow.holds Try.pinned (OpenSpec.ofChange sharingLeastWrong)

/-- 'vmfleetlaw35.SharingSaves': WHATEVER THE INPUT: true; the input reads as it did. -/
def sharingSavesSpec : ChangeSpec := { name := "sharingSaves", fn := fun _ => fun
  | [d1, d2, d3, d4] => { results := [.lit (.bool true)], args := [d1, d2, d3, d4] }
  | _ => none }
def sharingSavesRow : OpenClaim := { program := "ytjoopjgpjkmmhaa", sum := "02f9dd549a5475cc684eea9a1f3267d7aab0310e1a1ec8a042c37d26cb960f9a", func := "vmfleet/vmfleetlaw35.SharingSaves", spec := "sharingSaves", inPlace := ["internal/bytealg.CountString", "internal/bytealg.IndexByteString", "internal/bytealg.IndexString", "internal/abi.NoEscape", "internal/bytealg.MakeNoZero"], named := ["internal/bytealg.MaxLen"], apart := false }
def SharingSavesSaid : Prop := sharingSavesRow.holds Try.pinned (OpenSpec.ofChange sharingSavesSpec)

/-- ITS FALSE NEIGHBOUR: 'it returns false'. Refute it at one input. -/
def sharingSavesWrong : ChangeSpec := { name := "sharingSaves", fn := fun _ => fun
  | [d1, d2, d3, d4] => { results := [.lit (.bool false)], args := [d1, d2, d3, d4] }
  | _ => none }
def SharingSavesWrongFalsely : Prop := sharingSavesRow.holds Try.pinned (OpenSpec.ofChange sharingSavesWrong)

/- THE SECOND FORM. 'bulk': how many values and letters a reading holds, each counted each time it is reached (what is shared counts as often as it is met; a slice's spare places count too). A statement '..UptoSaid' is the law's where the arguments, and the package variables that the reading takes, are together of bulk at most 1048576: NARROWER than '..Said'. Prove '..Said' where nothing that the law and all that it calls make is longer than what came in: it says more and counts as full. Else prove '..UptoSaid'. A law counts once. -/
mutual
def uptoBulk {H : Type} : DataW H → Nat
  | .lit (.string bytes) => bytes.length + 1
  | .lit _ => 1
  | .nil => 1
  | .ptr d => uptoBulk d + 1
  | .slice elems spare => uptoBulkAll elems + uptoBulkAll spare + 1
  | .agg parts => uptoBulkAll parts + 1
  | .iface _ d => uptoBulk d + 1
  | .map entries => uptoBulkEntries entries + 1
  | .held _ => 1
def uptoBulkAll {H : Type} : List (DataW H) → Nat
  | [] => 0
  | d :: r => uptoBulk d + uptoBulkAll r
def uptoBulkEntries {H : Type} : List (Lit × DataW H) → Nat
  | [] => 0
  | x :: r => uptoBulkEntry x + uptoBulkEntries r
def uptoBulkEntry {H : Type} : Lit × DataW H → Nat
  | (.string bytes, d) => bytes.length + uptoBulk d + 1
  | (_, d) => uptoBulk d + 1
 end
def uptoSmall : (H : Type) → List (DataW H) → Bool := fun _ ds => decide (uptoBulkAll ds ≤ 1048576)
def OpenSpec.upto (s : _root_.Go.ChangeSpec) : _root_.Go.OpenSpec := { _root_.Go.OpenSpec.ofChange s with cond := some uptoSmall }

/-- 'vmfleetlaw35.SharingTells', WHERE WHAT IT READS IS OF BULK AT MOST 1048576: true; the input reads as it did. -/
def sharingTellsUptoRow : OpenClaim := { program := "ytjoopjgpjkmmhaa", sum := "02f9dd549a5475cc684eea9a1f3267d7aab0310e1a1ec8a042c37d26cb960f9a", func := "vmfleet/vmfleetlaw35.SharingTells", spec := "sharingTells", inPlace := ["internal/bytealg.CountString", "internal/bytealg.IndexByteString", "internal/bytealg.IndexString", "internal/abi.NoEscape", "internal/bytealg.MakeNoZero"], named := ["internal/bytealg.MaxLen"], apart := false, narrowed := true }
def SharingTellsUptoSaid : Prop := sharingTellsUptoRow.holds Try.pinned (OpenSpec.upto sharingTellsSpec)

/-- 'vmfleetlaw35.SharingReached', WHERE WHAT IT READS IS OF BULK AT MOST 1048576: true; the input reads as it did. -/
def sharingReachedUptoRow : OpenClaim := { program := "ytjoopjgpjkmmhaa", sum := "02f9dd549a5475cc684eea9a1f3267d7aab0310e1a1ec8a042c37d26cb960f9a", func := "vmfleet/vmfleetlaw35.SharingReached", spec := "sharingReached", inPlace := ["internal/bytealg.CountString", "internal/bytealg.IndexByteString", "internal/bytealg.IndexString", "internal/abi.NoEscape", "internal/bytealg.MakeNoZero"], named := ["internal/bytealg.MaxLen"], apart := false, narrowed := true }
def SharingReachedUptoSaid : Prop := sharingReachedUptoRow.holds Try.pinned (OpenSpec.upto sharingReachedSpec)

/-- 'vmfleetlaw35.SharingKeeps', WHERE WHAT IT READS IS OF BULK AT MOST 1048576: true; the input reads as it did. -/
def sharingKeepsUptoRow : OpenClaim := { program := "ytjoopjgpjkmmhaa", sum := "02f9dd549a5475cc684eea9a1f3267d7aab0310e1a1ec8a042c37d26cb960f9a", func := "vmfleet/vmfleetlaw35.SharingKeeps", spec := "sharingKeeps", inPlace := ["internal/bytealg.CountString", "internal/bytealg.IndexByteString", "internal/bytealg.IndexString", "internal/abi.NoEscape", "internal/bytealg.MakeNoZero"], named := ["internal/bytealg.MaxLen"], apart := false, narrowed := true }
def SharingKeepsUptoSaid : Prop := sharingKeepsUptoRow.holds Try.pinned (OpenSpec.upto sharingKeepsSpec)

/-- 'vmfleetlaw35.SharingLeast', WHERE WHAT IT READS IS OF BULK AT MOST 1048576: true; the input reads as it did. -/
def sharingLeastUptoRow : OpenClaim := { program := "ytjoopjgpjkmmhaa", sum := "02f9dd549a5475cc684eea9a1f3267d7aab0310e1a1ec8a042c37d26cb960f9a", func := "vmfleet/vmfleetlaw35.SharingLeast", spec := "sharingLeast", inPlace := ["internal/bytealg.CountString", "internal/bytealg.IndexByteString", "internal/bytealg.IndexString", "internal/abi.NoEscape", "internal/bytealg.MakeNoZero"], named := ["internal/bytealg.MaxLen"], apart := false, narrowed := true }
def SharingLeastUptoSaid : Prop := sharingLeastUptoRow.holds Try.pinned (OpenSpec.upto sharingLeastSpec)

/-- 'vmfleetlaw35.SharingSaves', WHERE WHAT IT READS IS OF BULK AT MOST 1048576: true; the input reads as it did. -/
def sharingSavesUptoRow : OpenClaim := { program := "ytjoopjgpjkmmhaa", sum := "02f9dd549a5475cc684eea9a1f3267d7aab0310e1a1ec8a042c37d26cb960f9a", func := "vmfleet/vmfleetlaw35.SharingSaves", spec := "sharingSaves", inPlace := ["internal/bytealg.CountString", "internal/bytealg.IndexByteString", "internal/bytealg.IndexString", "internal/abi.NoEscape", "internal/bytealg.MakeNoZero"], named := ["internal/bytealg.MaxLen"], apart := false, narrowed := true }
def SharingSavesUptoSaid : Prop := sharingSavesUptoRow.holds Try.pinned (OpenSpec.upto sharingSavesSpec)

end Rows
end Go.Proofs.Ytjoopjgpjkmmhaa
