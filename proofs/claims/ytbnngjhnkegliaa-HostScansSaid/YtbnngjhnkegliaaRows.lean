/-
  No cell of these rows narrows 'for every input' (looked for: loops, veiled, ifaces, maps, wideKeys, modest, calm, conditions, laid).
  DERIVED. THE GIVEN ROWS OF THIS SEAT. 5 by the template 'for every input the law returns true; each argument reads behind the call as it read before'; 0 by the template 'total and deterministic' (their statements: YtbnngjhnkegliaaTotals.lean).
  GIVEN WITH THE SEED: the statements are not yours to turn. If you find one false, say at which input.
  Laid BY PROGRAM, IN A SANDBOX (cutbox-rows.mjs): the forced cells as the released guide's own fill.sh prints them over the translation 36a1582fdbbab362… (all of the seat's roots in one cut). By AI agents, Wed Nov 11 2026. No macro, syntax, notation, axiom, sorry.
-/
import Derived.Test.YtbnngjhnkegliaaChecked
import GoSem.Claim
import GoSem.ClaimJoined
import GoSem.ClaimMapViews
import Derived.JoinedTies
import Derived.KernelRfl
namespace Go.Proofs.Ytbnngjhnkegliaa
/- THE CELL 'sum', in the pinned program and in every row, IS THE sha256 OF THE DUMP (.gsa) THAT YtbnngjhnkegliaaProg.lean LOADS. Nothing in Lean hashes anything: it is a label: what it is worth is what the hold of that sum in a sandbox is worth. -/
noncomputable def Try.pinned : Pinned := { name := "ytbnngjhnkegliaa", sum := "36a1582fdbbab362283174b9c12d2058521f36c66ee74a3ec0be8912881c48c7", checked := Try.checked }
namespace Rows
def none {H : Type} : Left H := { results := [], args := [] }

/-- 'vmfleetlaw38.HostReserves': WHATEVER THE INPUT: true; the input reads as it did. -/
def hostReservesSpec : ChangeSpec := { name := "hostReserves", fn := fun _ => fun
  | [d1, d2, d3, d4, d5] => { results := [.lit (.bool true)], args := [d1, d2, d3, d4, d5] }
  | _ => none }
def hostReservesRow : OpenClaim := { program := "ytbnngjhnkegliaa", sum := "36a1582fdbbab362283174b9c12d2058521f36c66ee74a3ec0be8912881c48c7", func := "vmfleet/vmfleetlaw38.HostReserves", spec := "hostReserves", inPlace := ["internal/bytealg.CountString", "internal/bytealg.IndexByteString", "internal/bytealg.IndexString", "internal/abi.NoEscape", "internal/bytealg.MakeNoZero"], named := ["internal/bytealg.MaxLen"], apart := false }
def HostReservesSaid : Prop := hostReservesRow.holds Try.pinned (OpenSpec.ofChange hostReservesSpec)

/-- ITS FALSE NEIGHBOUR: 'it returns false'. Refute it at one input. -/
def hostReservesWrong : ChangeSpec := { name := "hostReserves", fn := fun _ => fun
  | [d1, d2, d3, d4, d5] => { results := [.lit (.bool false)], args := [d1, d2, d3, d4, d5] }
  | _ => none }
def HostReservesWrongFalsely : Prop := hostReservesRow.holds Try.pinned (OpenSpec.ofChange hostReservesWrong)

/-- 'vmfleetlaw38.HostKeeps': WHATEVER THE INPUT: true; the input reads as it did. -/
def hostKeepsSpec : ChangeSpec := { name := "hostKeeps", fn := fun _ => fun
  | [d1, d2, d3, d4] => { results := [.lit (.bool true)], args := [d1, d2, d3, d4] }
  | _ => none }
def hostKeepsRow : OpenClaim := { program := "ytbnngjhnkegliaa", sum := "36a1582fdbbab362283174b9c12d2058521f36c66ee74a3ec0be8912881c48c7", func := "vmfleet/vmfleetlaw38.HostKeeps", spec := "hostKeeps", inPlace := ["internal/bytealg.CountString", "internal/bytealg.IndexByteString", "internal/bytealg.IndexString", "internal/abi.NoEscape", "internal/bytealg.MakeNoZero"], named := ["internal/bytealg.MaxLen"], apart := false }
def HostKeepsSaid : Prop := hostKeepsRow.holds Try.pinned (OpenSpec.ofChange hostKeepsSpec)

/-- ITS FALSE NEIGHBOUR: 'it returns false'. Refute it at one input. -/
def hostKeepsWrong : ChangeSpec := { name := "hostKeeps", fn := fun _ => fun
  | [d1, d2, d3, d4] => { results := [.lit (.bool false)], args := [d1, d2, d3, d4] }
  | _ => none }
def HostKeepsWrongFalsely : Prop := hostKeepsRow.holds Try.pinned (OpenSpec.ofChange hostKeepsWrong)

/-- 'vmfleetlaw38.HostLimits': WHATEVER THE INPUT: true; the input reads as it did. -/
def hostLimitsSpec : ChangeSpec := { name := "hostLimits", fn := fun _ => fun
  | [d1, d2, d3, d4] => { results := [.lit (.bool true)], args := [d1, d2, d3, d4] }
  | _ => none }
def hostLimitsRow : OpenClaim := { program := "ytbnngjhnkegliaa", sum := "36a1582fdbbab362283174b9c12d2058521f36c66ee74a3ec0be8912881c48c7", func := "vmfleet/vmfleetlaw38.HostLimits", spec := "hostLimits", inPlace := ["internal/bytealg.CountString", "internal/bytealg.IndexByteString", "internal/bytealg.IndexString", "internal/abi.NoEscape", "internal/bytealg.MakeNoZero"], named := ["internal/bytealg.MaxLen"], apart := false }
def HostLimitsSaid : Prop := hostLimitsRow.holds Try.pinned (OpenSpec.ofChange hostLimitsSpec)

/-- ITS FALSE NEIGHBOUR: 'it returns false'. Refute it at one input. -/
def hostLimitsWrong : ChangeSpec := { name := "hostLimits", fn := fun _ => fun
  | [d1, d2, d3, d4] => { results := [.lit (.bool false)], args := [d1, d2, d3, d4] }
  | _ => none }
def HostLimitsWrongFalsely : Prop := hostLimitsRow.holds Try.pinned (OpenSpec.ofChange hostLimitsWrong)

/-- 'vmfleetlaw38.HostScans': WHATEVER THE INPUT: true; the input reads as it did. -/
def hostScansSpec : ChangeSpec := { name := "hostScans", fn := fun _ => fun
  | [d1, d2, d3, d4] => { results := [.lit (.bool true)], args := [d1, d2, d3, d4] }
  | _ => none }
def hostScansRow : OpenClaim := { program := "ytbnngjhnkegliaa", sum := "36a1582fdbbab362283174b9c12d2058521f36c66ee74a3ec0be8912881c48c7", func := "vmfleet/vmfleetlaw38.HostScans", spec := "hostScans", inPlace := ["internal/bytealg.CountString", "internal/bytealg.IndexByteString", "internal/bytealg.IndexString", "internal/abi.NoEscape", "internal/bytealg.MakeNoZero"], named := ["internal/bytealg.MaxLen"], apart := false }
def HostScansSaid : Prop := hostScansRow.holds Try.pinned (OpenSpec.ofChange hostScansSpec)

/-- ITS FALSE NEIGHBOUR: 'it returns false'. Refute it at one input. -/
def hostScansWrong : ChangeSpec := { name := "hostScans", fn := fun _ => fun
  | [d1, d2, d3, d4] => { results := [.lit (.bool false)], args := [d1, d2, d3, d4] }
  | _ => none }
def HostScansWrongFalsely : Prop := hostScansRow.holds Try.pinned (OpenSpec.ofChange hostScansWrong)

/-- 'vmfleetlaw38.HostAlone': WHATEVER THE INPUT: true; the input reads as it did. -/
def hostAloneSpec : ChangeSpec := { name := "hostAlone", fn := fun _ => fun
  | [d1, d2, d3, d4, d5, d6] => { results := [.lit (.bool true)], args := [d1, d2, d3, d4, d5, d6] }
  | _ => none }
def hostAloneRow : OpenClaim := { program := "ytbnngjhnkegliaa", sum := "36a1582fdbbab362283174b9c12d2058521f36c66ee74a3ec0be8912881c48c7", func := "vmfleet/vmfleetlaw38.HostAlone", spec := "hostAlone", inPlace := ["internal/bytealg.CountString", "internal/bytealg.IndexByteString", "internal/bytealg.IndexString", "internal/abi.NoEscape", "internal/bytealg.MakeNoZero"], named := ["internal/bytealg.MaxLen"], apart := false }
def HostAloneSaid : Prop := hostAloneRow.holds Try.pinned (OpenSpec.ofChange hostAloneSpec)

/-- ITS FALSE NEIGHBOUR: 'it returns false'. Refute it at one input. -/
def hostAloneWrong : ChangeSpec := { name := "hostAlone", fn := fun _ => fun
  | [d1, d2, d3, d4, d5, d6] => { results := [.lit (.bool false)], args := [d1, d2, d3, d4, d5, d6] }
  | _ => none }
def HostAloneWrongFalsely : Prop := hostAloneRow.holds Try.pinned (OpenSpec.ofChange hostAloneWrong)

/- THE SECOND FORM. 'bulk': how many values and letters a reading holds, each counted each time it is reached (what is shared counts as often as it is met; a slice's spare places count too). A statement '..UptoSaid' is the law's where the arguments, and the package variables that the reading takes, are together of bulk at most 1048576: NARROWER than '..Said'. Prove '..Said' where nothing that the law and all that it calls make is longer than what came in: it says more and counts as full. Else prove '..UptoSaid'. A law counts once. -/
mutual
def uptoBulk {H : Type} : DataW H → Nat
  | .lit (.string bytes) => bytes.length + 1
  | .lit _ => 1
  | .nil => 1
  | .ptr d => uptoBulk d + 1
  | .slice elems spare => uptoBulkAll elems + uptoBulkAll spare + 1
  | .agg parts => uptoBulkAll parts + 1
  | .iface _ d => uptoBulk d + 1
  | .map entries => uptoBulkEntries entries + 1
  | .held _ => 1
def uptoBulkAll {H : Type} : List (DataW H) → Nat
  | [] => 0
  | d :: r => uptoBulk d + uptoBulkAll r
def uptoBulkEntries {H : Type} : List (Lit × DataW H) → Nat
  | [] => 0
  | x :: r => uptoBulkEntry x + uptoBulkEntries r
def uptoBulkEntry {H : Type} : Lit × DataW H → Nat
  | (.string bytes, d) => bytes.length + uptoBulk d + 1
  | (_, d) => uptoBulk d + 1
 end
def uptoSmall : (H : Type) → List (DataW H) → Bool := fun _ ds => decide (uptoBulkAll ds ≤ 1048576)
def OpenSpec.upto (s : _root_.Go.ChangeSpec) : _root_.Go.OpenSpec := { _root_.Go.OpenSpec.ofChange s with cond := some uptoSmall }

/-- 'vmfleetlaw38.HostReserves', WHERE WHAT IT READS IS OF BULK AT MOST 1048576: true; the input reads as it did. -/
def hostReservesUptoRow : OpenClaim := { program := "ytbnngjhnkegliaa", sum := "36a1582fdbbab362283174b9c12d2058521f36c66ee74a3ec0be8912881c48c7", func := "vmfleet/vmfleetlaw38.HostReserves", spec := "hostReserves", inPlace := ["internal/bytealg.CountString", "internal/bytealg.IndexByteString", "internal/bytealg.IndexString", "internal/abi.NoEscape", "internal/bytealg.MakeNoZero"], named := ["internal/bytealg.MaxLen"], apart := false, narrowed := true }
def HostReservesUptoSaid : Prop := hostReservesUptoRow.holds Try.pinned (OpenSpec.upto hostReservesSpec)

/-- 'vmfleetlaw38.HostKeeps', WHERE WHAT IT READS IS OF BULK AT MOST 1048576: true; the input reads as it did. -/
def hostKeepsUptoRow : OpenClaim := { program := "ytbnngjhnkegliaa", sum := "36a1582fdbbab362283174b9c12d2058521f36c66ee74a3ec0be8912881c48c7", func := "vmfleet/vmfleetlaw38.HostKeeps", spec := "hostKeeps", inPlace := ["internal/bytealg.CountString", "internal/bytealg.IndexByteString", "internal/bytealg.IndexString", "internal/abi.NoEscape", "internal/bytealg.MakeNoZero"], named := ["internal/bytealg.MaxLen"], apart := false, narrowed := true }
def HostKeepsUptoSaid : Prop := hostKeepsUptoRow.holds Try.pinned (OpenSpec.upto hostKeepsSpec)

/-- 'vmfleetlaw38.HostLimits', WHERE WHAT IT READS IS OF BULK AT MOST 1048576: true; the input reads as it did. -/
def hostLimitsUptoRow : OpenClaim := { program := "ytbnngjhnkegliaa", sum := "36a1582fdbbab362283174b9c12d2058521f36c66ee74a3ec0be8912881c48c7", func := "vmfleet/vmfleetlaw38.HostLimits", spec := "hostLimits", inPlace := ["internal/bytealg.CountString", "internal/bytealg.IndexByteString", "internal/bytealg.IndexString", "internal/abi.NoEscape", "internal/bytealg.MakeNoZero"], named := ["internal/bytealg.MaxLen"], apart := false, narrowed := true }
def HostLimitsUptoSaid : Prop := hostLimitsUptoRow.holds Try.pinned (OpenSpec.upto hostLimitsSpec)

/-- 'vmfleetlaw38.HostScans', WHERE WHAT IT READS IS OF BULK AT MOST 1048576: true; the input reads as it did. -/
def hostScansUptoRow : OpenClaim := { program := "ytbnngjhnkegliaa", sum := "36a1582fdbbab362283174b9c12d2058521f36c66ee74a3ec0be8912881c48c7", func := "vmfleet/vmfleetlaw38.HostScans", spec := "hostScans", inPlace := ["internal/bytealg.CountString", "internal/bytealg.IndexByteString", "internal/bytealg.IndexString", "internal/abi.NoEscape", "internal/bytealg.MakeNoZero"], named := ["internal/bytealg.MaxLen"], apart := false, narrowed := true }
def HostScansUptoSaid : Prop := hostScansUptoRow.holds Try.pinned (OpenSpec.upto hostScansSpec)

/-- 'vmfleetlaw38.HostAlone', WHERE WHAT IT READS IS OF BULK AT MOST 1048576: true; the input reads as it did. -/
def hostAloneUptoRow : OpenClaim := { program := "ytbnngjhnkegliaa", sum := "36a1582fdbbab362283174b9c12d2058521f36c66ee74a3ec0be8912881c48c7", func := "vmfleet/vmfleetlaw38.HostAlone", spec := "hostAlone", inPlace := ["internal/bytealg.CountString", "internal/bytealg.IndexByteString", "internal/bytealg.IndexString", "internal/abi.NoEscape", "internal/bytealg.MakeNoZero"], named := ["internal/bytealg.MaxLen"], apart := false, narrowed := true }
def HostAloneUptoSaid : Prop := hostAloneUptoRow.holds Try.pinned (OpenSpec.upto hostAloneSpec)

end Rows
end Go.Proofs.Ytbnngjhnkegliaa
