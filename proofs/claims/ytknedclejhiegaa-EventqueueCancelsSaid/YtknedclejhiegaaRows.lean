/-
  No cell of these rows narrows 'for every input' (looked for: loops, veiled, ifaces, maps, wideKeys, modest, calm, conditions, laid).
  DERIVED. THE GIVEN ROWS OF THIS SEAT. 7 by the template 'for every input the law returns true; each argument reads behind the call as it read before'; 0 by the template 'total and deterministic' (their statements: YtknedclejhiegaaTotals.lean).
  GIVEN WITH THE SEED: the statements are not yours to turn. If you find one false, say at which input.
  Laid BY PROGRAM, IN A SANDBOX (cutbox-rows.mjs): the forced cells as the released guide's own fill.sh prints them over the translation 5824b98613fb76c7… (all of the seat's roots in one cut). By AI agents, Wed Nov 11 2026. No macro, syntax, notation, axiom, sorry.
-/
import Derived.Test.YtknedclejhiegaaChecked
import GoSem.Claim
import GoSem.ClaimJoined
import GoSem.ClaimMapViews
import Derived.JoinedTies
import Derived.KernelRfl
namespace Go.Proofs.Ytknedclejhiegaa
/- THE CELL 'sum', in the pinned program and in every row, IS THE sha256 OF THE DUMP (.gsa) THAT YtknedclejhiegaaProg.lean LOADS. Nothing in Lean hashes anything: it is a label: what it is worth is what the hold of that sum in a sandbox is worth. -/
noncomputable def Try.pinned : Pinned := { name := "ytknedclejhiegaa", sum := "5824b98613fb76c7a8a06d3c036865d384af5c2dd4fb1fa459479af2ea891cac", checked := Try.checked }
namespace Rows
def none {H : Type} : Left H := { results := [], args := [] }

/-- 'standbylaw08.EventqueueChecks': WHATEVER THE INPUT: true; the input reads as it did. -/
def eventqueueChecksSpec : ChangeSpec := { name := "eventqueueChecks", fn := fun _ => fun
  | [d] => { results := [.lit (.bool true)], args := [d] }
  | _ => none }
def eventqueueChecksRow : OpenClaim := { program := "ytknedclejhiegaa", sum := "5824b98613fb76c7a8a06d3c036865d384af5c2dd4fb1fa459479af2ea891cac", func := "standby/standbylaw08.EventqueueChecks", spec := "eventqueueChecks", inPlace := ["slices.overlaps[standby/api.Event]"], unfollowed := true, recurses := true, apart := false }
def EventqueueChecksSaid : Prop := eventqueueChecksRow.holds Try.pinned (OpenSpec.ofChange eventqueueChecksSpec)

/-- ITS FALSE NEIGHBOUR: 'it returns false'. Refute it at one input. -/
def eventqueueChecksWrong : ChangeSpec := { name := "eventqueueChecks", fn := fun _ => fun
  | [d] => { results := [.lit (.bool false)], args := [d] }
  | _ => none }
def EventqueueChecksWrongFalsely : Prop := eventqueueChecksRow.holds Try.pinned (OpenSpec.ofChange eventqueueChecksWrong)

/-- 'standbylaw08.EventqueueAdds': WHATEVER THE INPUT: true; the input reads as it did. -/
def eventqueueAddsSpec : ChangeSpec := { name := "eventqueueAdds", fn := fun _ => fun
  | [d1, d2] => { results := [.lit (.bool true)], args := [d1, d2] }
  | _ => none }
def eventqueueAddsRow : OpenClaim := { program := "ytknedclejhiegaa", sum := "5824b98613fb76c7a8a06d3c036865d384af5c2dd4fb1fa459479af2ea891cac", func := "standby/standbylaw08.EventqueueAdds", spec := "eventqueueAdds", inPlace := ["slices.overlaps[standby/api.Event]"], unfollowed := true, recurses := true, apart := false }
def EventqueueAddsSaid : Prop := eventqueueAddsRow.holds Try.pinned (OpenSpec.ofChange eventqueueAddsSpec)

/-- ITS FALSE NEIGHBOUR: 'it returns false'. Refute it at one input. -/
def eventqueueAddsWrong : ChangeSpec := { name := "eventqueueAdds", fn := fun _ => fun
  | [d1, d2] => { results := [.lit (.bool false)], args := [d1, d2] }
  | _ => none }
def EventqueueAddsWrongFalsely : Prop := eventqueueAddsRow.holds Try.pinned (OpenSpec.ofChange eventqueueAddsWrong)

/-- 'standbylaw08.EventqueueCancels': WHATEVER THE INPUT: true; the input reads as it did. -/
def eventqueueCancelsSpec : ChangeSpec := { name := "eventqueueCancels", fn := fun _ => fun
  | [d1, d2] => { results := [.lit (.bool true)], args := [d1, d2] }
  | _ => none }
def eventqueueCancelsRow : OpenClaim := { program := "ytknedclejhiegaa", sum := "5824b98613fb76c7a8a06d3c036865d384af5c2dd4fb1fa459479af2ea891cac", func := "standby/standbylaw08.EventqueueCancels", spec := "eventqueueCancels", inPlace := ["slices.overlaps[standby/api.Event]"], unfollowed := true, recurses := true, apart := false }
def EventqueueCancelsSaid : Prop := eventqueueCancelsRow.holds Try.pinned (OpenSpec.ofChange eventqueueCancelsSpec)

/-- ITS FALSE NEIGHBOUR: 'it returns false'. Refute it at one input. -/
def eventqueueCancelsWrong : ChangeSpec := { name := "eventqueueCancels", fn := fun _ => fun
  | [d1, d2] => { results := [.lit (.bool false)], args := [d1, d2] }
  | _ => none }
def EventqueueCancelsWrongFalsely : Prop := eventqueueCancelsRow.holds Try.pinned (OpenSpec.ofChange eventqueueCancelsWrong)

/-- 'standbylaw08.EventqueueNumbers': WHATEVER THE INPUT: true; the input reads as it did. -/
def eventqueueNumbersSpec : ChangeSpec := { name := "eventqueueNumbers", fn := fun _ => fun
  | [d1, d2] => { results := [.lit (.bool true)], args := [d1, d2] }
  | _ => none }
def eventqueueNumbersRow : OpenClaim := { program := "ytknedclejhiegaa", sum := "5824b98613fb76c7a8a06d3c036865d384af5c2dd4fb1fa459479af2ea891cac", func := "standby/standbylaw08.EventqueueNumbers", spec := "eventqueueNumbers", inPlace := ["slices.overlaps[standby/api.Event]"], unfollowed := true, recurses := true, apart := false }
def EventqueueNumbersSaid : Prop := eventqueueNumbersRow.holds Try.pinned (OpenSpec.ofChange eventqueueNumbersSpec)

/-- ITS FALSE NEIGHBOUR: 'it returns false'. Refute it at one input. -/
def eventqueueNumbersWrong : ChangeSpec := { name := "eventqueueNumbers", fn := fun _ => fun
  | [d1, d2] => { results := [.lit (.bool false)], args := [d1, d2] }
  | _ => none }
def EventqueueNumbersWrongFalsely : Prop := eventqueueNumbersRow.holds Try.pinned (OpenSpec.ofChange eventqueueNumbersWrong)

/-- 'standbylaw08.EventqueueOrders': WHATEVER THE INPUT: true; the input reads as it did. -/
def eventqueueOrdersSpec : ChangeSpec := { name := "eventqueueOrders", fn := fun _ => fun
  | [d] => { results := [.lit (.bool true)], args := [d] }
  | _ => none }
def eventqueueOrdersRow : OpenClaim := { program := "ytknedclejhiegaa", sum := "5824b98613fb76c7a8a06d3c036865d384af5c2dd4fb1fa459479af2ea891cac", func := "standby/standbylaw08.EventqueueOrders", spec := "eventqueueOrders", inPlace := ["slices.overlaps[standby/api.Event]"], unfollowed := true, recurses := true, apart := false }
def EventqueueOrdersSaid : Prop := eventqueueOrdersRow.holds Try.pinned (OpenSpec.ofChange eventqueueOrdersSpec)

/-- ITS FALSE NEIGHBOUR: 'it returns false'. Refute it at one input. -/
def eventqueueOrdersWrong : ChangeSpec := { name := "eventqueueOrders", fn := fun _ => fun
  | [d] => { results := [.lit (.bool false)], args := [d] }
  | _ => none }
def EventqueueOrdersWrongFalsely : Prop := eventqueueOrdersRow.holds Try.pinned (OpenSpec.ofChange eventqueueOrdersWrong)

/-- 'standbylaw08.EventqueueTakes': WHATEVER THE INPUT: true; the input reads as it did. -/
def eventqueueTakesSpec : ChangeSpec := { name := "eventqueueTakes", fn := fun _ => fun
  | [d1, d2, d3] => { results := [.lit (.bool true)], args := [d1, d2, d3] }
  | _ => none }
def eventqueueTakesRow : OpenClaim := { program := "ytknedclejhiegaa", sum := "5824b98613fb76c7a8a06d3c036865d384af5c2dd4fb1fa459479af2ea891cac", func := "standby/standbylaw08.EventqueueTakes", spec := "eventqueueTakes", inPlace := ["slices.overlaps[standby/api.Event]"], unfollowed := true, recurses := true, apart := false }
def EventqueueTakesSaid : Prop := eventqueueTakesRow.holds Try.pinned (OpenSpec.ofChange eventqueueTakesSpec)

/-- ITS FALSE NEIGHBOUR: 'it returns false'. Refute it at one input. -/
def eventqueueTakesWrong : ChangeSpec := { name := "eventqueueTakes", fn := fun _ => fun
  | [d1, d2, d3] => { results := [.lit (.bool false)], args := [d1, d2, d3] }
  | _ => none }
def EventqueueTakesWrongFalsely : Prop := eventqueueTakesRow.holds Try.pinned (OpenSpec.ofChange eventqueueTakesWrong)

/-- 'standbylaw08.EventqueueExpires': WHATEVER THE INPUT: true; the input reads as it did. -/
def eventqueueExpiresSpec : ChangeSpec := { name := "eventqueueExpires", fn := fun _ => fun
  | [d1, d2] => { results := [.lit (.bool true)], args := [d1, d2] }
  | _ => none }
def eventqueueExpiresRow : OpenClaim := { program := "ytknedclejhiegaa", sum := "5824b98613fb76c7a8a06d3c036865d384af5c2dd4fb1fa459479af2ea891cac", func := "standby/standbylaw08.EventqueueExpires", spec := "eventqueueExpires", inPlace := ["slices.overlaps[standby/api.Event]"], unfollowed := true, recurses := true, apart := false }
def EventqueueExpiresSaid : Prop := eventqueueExpiresRow.holds Try.pinned (OpenSpec.ofChange eventqueueExpiresSpec)

/-- ITS FALSE NEIGHBOUR: 'it returns false'. Refute it at one input. -/
def eventqueueExpiresWrong : ChangeSpec := { name := "eventqueueExpires", fn := fun _ => fun
  | [d1, d2] => { results := [.lit (.bool false)], args := [d1, d2] }
  | _ => none }
def EventqueueExpiresWrongFalsely : Prop := eventqueueExpiresRow.holds Try.pinned (OpenSpec.ofChange eventqueueExpiresWrong)

/- THE SECOND FORM. 'bulk': how many values and letters a reading holds, each counted each time it is reached (what is shared counts as often as it is met; a slice's spare places count too). A statement '..UptoSaid' is the law's where the arguments, and the package variables that the reading takes, are together of bulk at most 1048576: NARROWER than '..Said'. Prove '..Said' where nothing that the law and all that it calls make is longer than what came in: it says more and counts as full. Else prove '..UptoSaid'. A law counts once. -/
mutual
def uptoBulk {H : Type} : DataW H → Nat
  | .lit (.string bytes) => bytes.length + 1
  | .lit _ => 1
  | .nil => 1
  | .ptr d => uptoBulk d + 1
  | .slice elems spare => uptoBulkAll elems + uptoBulkAll spare + 1
  | .agg parts => uptoBulkAll parts + 1
  | .iface _ d => uptoBulk d + 1
  | .map entries => uptoBulkEntries entries + 1
  | .held _ => 1
def uptoBulkAll {H : Type} : List (DataW H) → Nat
  | [] => 0
  | d :: r => uptoBulk d + uptoBulkAll r
def uptoBulkEntries {H : Type} : List (Lit × DataW H) → Nat
  | [] => 0
  | x :: r => uptoBulkEntry x + uptoBulkEntries r
def uptoBulkEntry {H : Type} : Lit × DataW H → Nat
  | (.string bytes, d) => bytes.length + uptoBulk d + 1
  | (_, d) => uptoBulk d + 1
 end
def uptoSmall : (H : Type) → List (DataW H) → Bool := fun _ ds => decide (uptoBulkAll ds ≤ 1048576)
def OpenSpec.upto (s : _root_.Go.ChangeSpec) : _root_.Go.OpenSpec := { _root_.Go.OpenSpec.ofChange s with cond := some uptoSmall }

/-- 'standbylaw08.EventqueueChecks', WHERE WHAT IT READS IS OF BULK AT MOST 1048576: true; the input reads as it did. -/
def eventqueueChecksUptoRow : OpenClaim := { program := "ytknedclejhiegaa", sum := "5824b98613fb76c7a8a06d3c036865d384af5c2dd4fb1fa459479af2ea891cac", func := "standby/standbylaw08.EventqueueChecks", spec := "eventqueueChecks", inPlace := ["slices.overlaps[standby/api.Event]"], unfollowed := true, recurses := true, apart := false, narrowed := true }
def EventqueueChecksUptoSaid : Prop := eventqueueChecksUptoRow.holds Try.pinned (OpenSpec.upto eventqueueChecksSpec)

/-- 'standbylaw08.EventqueueAdds', WHERE WHAT IT READS IS OF BULK AT MOST 1048576: true; the input reads as it did. -/
def eventqueueAddsUptoRow : OpenClaim := { program := "ytknedclejhiegaa", sum := "5824b98613fb76c7a8a06d3c036865d384af5c2dd4fb1fa459479af2ea891cac", func := "standby/standbylaw08.EventqueueAdds", spec := "eventqueueAdds", inPlace := ["slices.overlaps[standby/api.Event]"], unfollowed := true, recurses := true, apart := false, narrowed := true }
def EventqueueAddsUptoSaid : Prop := eventqueueAddsUptoRow.holds Try.pinned (OpenSpec.upto eventqueueAddsSpec)

/-- 'standbylaw08.EventqueueCancels', WHERE WHAT IT READS IS OF BULK AT MOST 1048576: true; the input reads as it did. -/
def eventqueueCancelsUptoRow : OpenClaim := { program := "ytknedclejhiegaa", sum := "5824b98613fb76c7a8a06d3c036865d384af5c2dd4fb1fa459479af2ea891cac", func := "standby/standbylaw08.EventqueueCancels", spec := "eventqueueCancels", inPlace := ["slices.overlaps[standby/api.Event]"], unfollowed := true, recurses := true, apart := false, narrowed := true }
def EventqueueCancelsUptoSaid : Prop := eventqueueCancelsUptoRow.holds Try.pinned (OpenSpec.upto eventqueueCancelsSpec)

/-- 'standbylaw08.EventqueueNumbers', WHERE WHAT IT READS IS OF BULK AT MOST 1048576: true; the input reads as it did. -/
def eventqueueNumbersUptoRow : OpenClaim := { program := "ytknedclejhiegaa", sum := "5824b98613fb76c7a8a06d3c036865d384af5c2dd4fb1fa459479af2ea891cac", func := "standby/standbylaw08.EventqueueNumbers", spec := "eventqueueNumbers", inPlace := ["slices.overlaps[standby/api.Event]"], unfollowed := true, recurses := true, apart := false, narrowed := true }
def EventqueueNumbersUptoSaid : Prop := eventqueueNumbersUptoRow.holds Try.pinned (OpenSpec.upto eventqueueNumbersSpec)

/-- 'standbylaw08.EventqueueOrders', WHERE WHAT IT READS IS OF BULK AT MOST 1048576: true; the input reads as it did. -/
def eventqueueOrdersUptoRow : OpenClaim := { program := "ytknedclejhiegaa", sum := "5824b98613fb76c7a8a06d3c036865d384af5c2dd4fb1fa459479af2ea891cac", func := "standby/standbylaw08.EventqueueOrders", spec := "eventqueueOrders", inPlace := ["slices.overlaps[standby/api.Event]"], unfollowed := true, recurses := true, apart := false, narrowed := true }
def EventqueueOrdersUptoSaid : Prop := eventqueueOrdersUptoRow.holds Try.pinned (OpenSpec.upto eventqueueOrdersSpec)

/-- 'standbylaw08.EventqueueTakes', WHERE WHAT IT READS IS OF BULK AT MOST 1048576: true; the input reads as it did. -/
def eventqueueTakesUptoRow : OpenClaim := { program := "ytknedclejhiegaa", sum := "5824b98613fb76c7a8a06d3c036865d384af5c2dd4fb1fa459479af2ea891cac", func := "standby/standbylaw08.EventqueueTakes", spec := "eventqueueTakes", inPlace := ["slices.overlaps[standby/api.Event]"], unfollowed := true, recurses := true, apart := false, narrowed := true }
def EventqueueTakesUptoSaid : Prop := eventqueueTakesUptoRow.holds Try.pinned (OpenSpec.upto eventqueueTakesSpec)

/-- 'standbylaw08.EventqueueExpires', WHERE WHAT IT READS IS OF BULK AT MOST 1048576: true; the input reads as it did. -/
def eventqueueExpiresUptoRow : OpenClaim := { program := "ytknedclejhiegaa", sum := "5824b98613fb76c7a8a06d3c036865d384af5c2dd4fb1fa459479af2ea891cac", func := "standby/standbylaw08.EventqueueExpires", spec := "eventqueueExpires", inPlace := ["slices.overlaps[standby/api.Event]"], unfollowed := true, recurses := true, apart := false, narrowed := true }
def EventqueueExpiresUptoSaid : Prop := eventqueueExpiresUptoRow.holds Try.pinned (OpenSpec.upto eventqueueExpiresSpec)

end Rows
end Go.Proofs.Ytknedclejhiegaa
