/-
  No cell of these rows narrows 'for every input' (looked for: loops, veiled, ifaces, maps, wideKeys, modest, calm, conditions, laid).
  DERIVED. THE GIVEN ROWS OF THIS SEAT. 8 by the template 'for every input the law returns true; each argument reads behind the call as it read before'; 0 by the template 'total and deterministic' (their statements: YtbiiahbhgjjhgaaTotals.lean).
  GIVEN WITH THE SEED: the statements are not yours to turn. If you find one false, say at which input.
  Laid BY PROGRAM, IN A SANDBOX (cutbox-rows.mjs): the forced cells as the released guide's own fill.sh prints them over the translation 38fb4b36666ff8b8… (all of the seat's roots in one cut). By AI agents, Wed Nov 11 2026. No macro, syntax, notation, axiom, sorry.
-/
import Derived.Test.YtbiiahbhgjjhgaaChecked
import GoSem.Claim
import GoSem.ClaimJoined
import GoSem.ClaimMapViews
import Derived.JoinedTies
import Derived.KernelRfl
namespace Go.Proofs.Ytbiiahbhgjjhgaa
/- THE CELL 'sum', in the pinned program and in every row, IS THE sha256 OF THE DUMP (.gsa) THAT YtbiiahbhgjjhgaaProg.lean LOADS. Nothing in Lean hashes anything: it is a label: what it is worth is what the hold of that sum in a sandbox is worth. -/
noncomputable def Try.pinned : Pinned := { name := "ytbiiahbhgjjhgaa", sum := "38fb4b36666ff8b846d9d3423890c40cb223ef217448f5fa6c6837d74d3ecdbe", checked := Try.checked }
namespace Rows
def none {H : Type} : Left H := { results := [], args := [] }

/-- 'standbylaw13.RecordSizes': WHATEVER THE INPUT: true; the input reads as it did. -/
def recordSizesSpec : ChangeSpec := { name := "recordSizes", fn := fun _ => fun
  | [d] => { results := [.lit (.bool true)], args := [d] }
  | _ => none }
def recordSizesRow : OpenClaim := { program := "ytbiiahbhgjjhgaa", sum := "38fb4b36666ff8b846d9d3423890c40cb223ef217448f5fa6c6837d74d3ecdbe", func := "standby/standbylaw13.RecordSizes", spec := "recordSizes", unfollowed := true, recurses := true, apart := false }
def RecordSizesSaid : Prop := recordSizesRow.holds Try.pinned (OpenSpec.ofChange recordSizesSpec)

/-- ITS FALSE NEIGHBOUR: 'it returns false'. Refute it at one input. -/
def recordSizesWrong : ChangeSpec := { name := "recordSizes", fn := fun _ => fun
  | [d] => { results := [.lit (.bool false)], args := [d] }
  | _ => none }
def RecordSizesWrongFalsely : Prop := recordSizesRow.holds Try.pinned (OpenSpec.ofChange recordSizesWrong)

/-- 'standbylaw13.RecordEncodes': WHATEVER THE INPUT: true; the input reads as it did. -/
def recordEncodesSpec : ChangeSpec := { name := "recordEncodes", fn := fun _ => fun
  | [d] => { results := [.lit (.bool true)], args := [d] }
  | _ => none }
def recordEncodesRow : OpenClaim := { program := "ytbiiahbhgjjhgaa", sum := "38fb4b36666ff8b846d9d3423890c40cb223ef217448f5fa6c6837d74d3ecdbe", func := "standby/standbylaw13.RecordEncodes", spec := "recordEncodes", unfollowed := true, recurses := true, apart := false }
def RecordEncodesSaid : Prop := recordEncodesRow.holds Try.pinned (OpenSpec.ofChange recordEncodesSpec)

/-- ITS FALSE NEIGHBOUR: 'it returns false'. Refute it at one input. -/
def recordEncodesWrong : ChangeSpec := { name := "recordEncodes", fn := fun _ => fun
  | [d] => { results := [.lit (.bool false)], args := [d] }
  | _ => none }
def RecordEncodesWrongFalsely : Prop := recordEncodesRow.holds Try.pinned (OpenSpec.ofChange recordEncodesWrong)

/-- 'standbylaw13.RecordDecodes': WHATEVER THE INPUT: true; the input reads as it did. -/
def recordDecodesSpec : ChangeSpec := { name := "recordDecodes", fn := fun _ => fun
  | [d] => { results := [.lit (.bool true)], args := [d] }
  | _ => none }
def recordDecodesRow : OpenClaim := { program := "ytbiiahbhgjjhgaa", sum := "38fb4b36666ff8b846d9d3423890c40cb223ef217448f5fa6c6837d74d3ecdbe", func := "standby/standbylaw13.RecordDecodes", spec := "recordDecodes", unfollowed := true, recurses := true, apart := false }
def RecordDecodesSaid : Prop := recordDecodesRow.holds Try.pinned (OpenSpec.ofChange recordDecodesSpec)

/-- ITS FALSE NEIGHBOUR: 'it returns false'. Refute it at one input. -/
def recordDecodesWrong : ChangeSpec := { name := "recordDecodes", fn := fun _ => fun
  | [d] => { results := [.lit (.bool false)], args := [d] }
  | _ => none }
def RecordDecodesWrongFalsely : Prop := recordDecodesRow.holds Try.pinned (OpenSpec.ofChange recordDecodesWrong)

/-- 'standbylaw13.RecordReturns': WHATEVER THE INPUT: true; the input reads as it did. -/
def recordReturnsSpec : ChangeSpec := { name := "recordReturns", fn := fun _ => fun
  | [d1, d2, d3] => { results := [.lit (.bool true)], args := [d1, d2, d3] }
  | _ => none }
def recordReturnsRow : OpenClaim := { program := "ytbiiahbhgjjhgaa", sum := "38fb4b36666ff8b846d9d3423890c40cb223ef217448f5fa6c6837d74d3ecdbe", func := "standby/standbylaw13.RecordReturns", spec := "recordReturns", unfollowed := true, recurses := true, apart := false }
def RecordReturnsSaid : Prop := recordReturnsRow.holds Try.pinned (OpenSpec.ofChange recordReturnsSpec)

/-- ITS FALSE NEIGHBOUR: 'it returns false'. Refute it at one input. -/
def recordReturnsWrong : ChangeSpec := { name := "recordReturns", fn := fun _ => fun
  | [d1, d2, d3] => { results := [.lit (.bool false)], args := [d1, d2, d3] }
  | _ => none }
def RecordReturnsWrongFalsely : Prop := recordReturnsRow.holds Try.pinned (OpenSpec.ofChange recordReturnsWrong)

/-- 'standbylaw13.RecordMixes': WHATEVER THE INPUT: true; the input reads as it did. -/
def recordMixesSpec : ChangeSpec := { name := "recordMixes", fn := fun _ => fun
  | [d1, d2, d3] => { results := [.lit (.bool true)], args := [d1, d2, d3] }
  | _ => none }
def recordMixesRow : OpenClaim := { program := "ytbiiahbhgjjhgaa", sum := "38fb4b36666ff8b846d9d3423890c40cb223ef217448f5fa6c6837d74d3ecdbe", func := "standby/standbylaw13.RecordMixes", spec := "recordMixes", unfollowed := true, recurses := true, apart := false }
def RecordMixesSaid : Prop := recordMixesRow.holds Try.pinned (OpenSpec.ofChange recordMixesSpec)

/-- ITS FALSE NEIGHBOUR: 'it returns false'. Refute it at one input. -/
def recordMixesWrong : ChangeSpec := { name := "recordMixes", fn := fun _ => fun
  | [d1, d2, d3] => { results := [.lit (.bool false)], args := [d1, d2, d3] }
  | _ => none }
def RecordMixesWrongFalsely : Prop := recordMixesRow.holds Try.pinned (OpenSpec.ofChange recordMixesWrong)

/-- 'standbylaw13.RecordDetects': WHATEVER THE INPUT: true; the input reads as it did. -/
def recordDetectsSpec : ChangeSpec := { name := "recordDetects", fn := fun _ => fun
  | [d1, d2, d3] => { results := [.lit (.bool true)], args := [d1, d2, d3] }
  | _ => none }
def recordDetectsRow : OpenClaim := { program := "ytbiiahbhgjjhgaa", sum := "38fb4b36666ff8b846d9d3423890c40cb223ef217448f5fa6c6837d74d3ecdbe", func := "standby/standbylaw13.RecordDetects", spec := "recordDetects", unfollowed := true, recurses := true, apart := false }
def RecordDetectsSaid : Prop := recordDetectsRow.holds Try.pinned (OpenSpec.ofChange recordDetectsSpec)

/-- ITS FALSE NEIGHBOUR: 'it returns false'. Refute it at one input. -/
def recordDetectsWrong : ChangeSpec := { name := "recordDetects", fn := fun _ => fun
  | [d1, d2, d3] => { results := [.lit (.bool false)], args := [d1, d2, d3] }
  | _ => none }
def RecordDetectsWrongFalsely : Prop := recordDetectsRow.holds Try.pinned (OpenSpec.ofChange recordDetectsWrong)

/-- 'standbylaw13.RecordScans': WHATEVER THE INPUT: true; the input reads as it did. -/
def recordScansSpec : ChangeSpec := { name := "recordScans", fn := fun _ => fun
  | [d1, d2] => { results := [.lit (.bool true)], args := [d1, d2] }
  | _ => none }
def recordScansRow : OpenClaim := { program := "ytbiiahbhgjjhgaa", sum := "38fb4b36666ff8b846d9d3423890c40cb223ef217448f5fa6c6837d74d3ecdbe", func := "standby/standbylaw13.RecordScans", spec := "recordScans", unfollowed := true, recurses := true, apart := false }
def RecordScansSaid : Prop := recordScansRow.holds Try.pinned (OpenSpec.ofChange recordScansSpec)

/-- ITS FALSE NEIGHBOUR: 'it returns false'. Refute it at one input. -/
def recordScansWrong : ChangeSpec := { name := "recordScans", fn := fun _ => fun
  | [d1, d2] => { results := [.lit (.bool false)], args := [d1, d2] }
  | _ => none }
def RecordScansWrongFalsely : Prop := recordScansRow.holds Try.pinned (OpenSpec.ofChange recordScansWrong)

/-- 'standbylaw13.RecordFinds': WHATEVER THE INPUT: true; the input reads as it did. -/
def recordFindsSpec : ChangeSpec := { name := "recordFinds", fn := fun _ => fun
  | [d1, d2, d3] => { results := [.lit (.bool true)], args := [d1, d2, d3] }
  | _ => none }
def recordFindsRow : OpenClaim := { program := "ytbiiahbhgjjhgaa", sum := "38fb4b36666ff8b846d9d3423890c40cb223ef217448f5fa6c6837d74d3ecdbe", func := "standby/standbylaw13.RecordFinds", spec := "recordFinds", unfollowed := true, recurses := true, apart := false }
def RecordFindsSaid : Prop := recordFindsRow.holds Try.pinned (OpenSpec.ofChange recordFindsSpec)

/-- ITS FALSE NEIGHBOUR: 'it returns false'. Refute it at one input. -/
def recordFindsWrong : ChangeSpec := { name := "recordFinds", fn := fun _ => fun
  | [d1, d2, d3] => { results := [.lit (.bool false)], args := [d1, d2, d3] }
  | _ => none }
def RecordFindsWrongFalsely : Prop := recordFindsRow.holds Try.pinned (OpenSpec.ofChange recordFindsWrong)

/- THE SECOND FORM. 'bulk': how many values and letters a reading holds, each counted each time it is reached (what is shared counts as often as it is met; a slice's spare places count too). A statement '..UptoSaid' is the law's where the arguments, and the package variables that the reading takes, are together of bulk at most 1048576: NARROWER than '..Said'. Prove '..Said' where nothing that the law and all that it calls make is longer than what came in: it says more and counts as full. Else prove '..UptoSaid'. A law counts once. -/
mutual
def uptoBulk {H : Type} : DataW H → Nat
  | .lit (.string bytes) => bytes.length + 1
  | .lit _ => 1
  | .nil => 1
  | .ptr d => uptoBulk d + 1
  | .slice elems spare => uptoBulkAll elems + uptoBulkAll spare + 1
  | .agg parts => uptoBulkAll parts + 1
  | .iface _ d => uptoBulk d + 1
  | .map entries => uptoBulkEntries entries + 1
  | .held _ => 1
def uptoBulkAll {H : Type} : List (DataW H) → Nat
  | [] => 0
  | d :: r => uptoBulk d + uptoBulkAll r
def uptoBulkEntries {H : Type} : List (Lit × DataW H) → Nat
  | [] => 0
  | x :: r => uptoBulkEntry x + uptoBulkEntries r
def uptoBulkEntry {H : Type} : Lit × DataW H → Nat
  | (.string bytes, d) => bytes.length + uptoBulk d + 1
  | (_, d) => uptoBulk d + 1
 end
def uptoSmall : (H : Type) → List (DataW H) → Bool := fun _ ds => decide (uptoBulkAll ds ≤ 1048576)
def OpenSpec.upto (s : _root_.Go.ChangeSpec) : _root_.Go.OpenSpec := { _root_.Go.OpenSpec.ofChange s with cond := some uptoSmall }

/-- 'standbylaw13.RecordSizes', WHERE WHAT IT READS IS OF BULK AT MOST 1048576: true; the input reads as it did. -/
def recordSizesUptoRow : OpenClaim := { program := "ytbiiahbhgjjhgaa", sum := "38fb4b36666ff8b846d9d3423890c40cb223ef217448f5fa6c6837d74d3ecdbe", func := "standby/standbylaw13.RecordSizes", spec := "recordSizes", unfollowed := true, recurses := true, apart := false, narrowed := true }
def RecordSizesUptoSaid : Prop := recordSizesUptoRow.holds Try.pinned (OpenSpec.upto recordSizesSpec)

/-- 'standbylaw13.RecordEncodes', WHERE WHAT IT READS IS OF BULK AT MOST 1048576: true; the input reads as it did. -/
def recordEncodesUptoRow : OpenClaim := { program := "ytbiiahbhgjjhgaa", sum := "38fb4b36666ff8b846d9d3423890c40cb223ef217448f5fa6c6837d74d3ecdbe", func := "standby/standbylaw13.RecordEncodes", spec := "recordEncodes", unfollowed := true, recurses := true, apart := false, narrowed := true }
def RecordEncodesUptoSaid : Prop := recordEncodesUptoRow.holds Try.pinned (OpenSpec.upto recordEncodesSpec)

/-- 'standbylaw13.RecordDecodes', WHERE WHAT IT READS IS OF BULK AT MOST 1048576: true; the input reads as it did. -/
def recordDecodesUptoRow : OpenClaim := { program := "ytbiiahbhgjjhgaa", sum := "38fb4b36666ff8b846d9d3423890c40cb223ef217448f5fa6c6837d74d3ecdbe", func := "standby/standbylaw13.RecordDecodes", spec := "recordDecodes", unfollowed := true, recurses := true, apart := false, narrowed := true }
def RecordDecodesUptoSaid : Prop := recordDecodesUptoRow.holds Try.pinned (OpenSpec.upto recordDecodesSpec)

/-- 'standbylaw13.RecordReturns', WHERE WHAT IT READS IS OF BULK AT MOST 1048576: true; the input reads as it did. -/
def recordReturnsUptoRow : OpenClaim := { program := "ytbiiahbhgjjhgaa", sum := "38fb4b36666ff8b846d9d3423890c40cb223ef217448f5fa6c6837d74d3ecdbe", func := "standby/standbylaw13.RecordReturns", spec := "recordReturns", unfollowed := true, recurses := true, apart := false, narrowed := true }
def RecordReturnsUptoSaid : Prop := recordReturnsUptoRow.holds Try.pinned (OpenSpec.upto recordReturnsSpec)

/-- 'standbylaw13.RecordMixes', WHERE WHAT IT READS IS OF BULK AT MOST 1048576: true; the input reads as it did. -/
def recordMixesUptoRow : OpenClaim := { program := "ytbiiahbhgjjhgaa", sum := "38fb4b36666ff8b846d9d3423890c40cb223ef217448f5fa6c6837d74d3ecdbe", func := "standby/standbylaw13.RecordMixes", spec := "recordMixes", unfollowed := true, recurses := true, apart := false, narrowed := true }
def RecordMixesUptoSaid : Prop := recordMixesUptoRow.holds Try.pinned (OpenSpec.upto recordMixesSpec)

/-- 'standbylaw13.RecordDetects', WHERE WHAT IT READS IS OF BULK AT MOST 1048576: true; the input reads as it did. -/
def recordDetectsUptoRow : OpenClaim := { program := "ytbiiahbhgjjhgaa", sum := "38fb4b36666ff8b846d9d3423890c40cb223ef217448f5fa6c6837d74d3ecdbe", func := "standby/standbylaw13.RecordDetects", spec := "recordDetects", unfollowed := true, recurses := true, apart := false, narrowed := true }
def RecordDetectsUptoSaid : Prop := recordDetectsUptoRow.holds Try.pinned (OpenSpec.upto recordDetectsSpec)

/-- 'standbylaw13.RecordScans', WHERE WHAT IT READS IS OF BULK AT MOST 1048576: true; the input reads as it did. -/
def recordScansUptoRow : OpenClaim := { program := "ytbiiahbhgjjhgaa", sum := "38fb4b36666ff8b846d9d3423890c40cb223ef217448f5fa6c6837d74d3ecdbe", func := "standby/standbylaw13.RecordScans", spec := "recordScans", unfollowed := true, recurses := true, apart := false, narrowed := true }
def RecordScansUptoSaid : Prop := recordScansUptoRow.holds Try.pinned (OpenSpec.upto recordScansSpec)

/-- 'standbylaw13.RecordFinds', WHERE WHAT IT READS IS OF BULK AT MOST 1048576: true; the input reads as it did. -/
def recordFindsUptoRow : OpenClaim := { program := "ytbiiahbhgjjhgaa", sum := "38fb4b36666ff8b846d9d3423890c40cb223ef217448f5fa6c6837d74d3ecdbe", func := "standby/standbylaw13.RecordFinds", spec := "recordFinds", unfollowed := true, recurses := true, apart := false, narrowed := true }
def RecordFindsUptoSaid : Prop := recordFindsUptoRow.holds Try.pinned (OpenSpec.upto recordFindsSpec)

end Rows
end Go.Proofs.Ytbiiahbhgjjhgaa
