/-
  No cell of these rows narrows 'for every input' (looked for: loops, veiled, ifaces, maps, wideKeys, modest, calm, conditions, laid).
  DERIVED. THE GIVEN ROWS OF THIS SEAT. 8 by the template 'for every input the law returns true; each argument reads behind the call as it read before'; 0 by the template 'total and deterministic' (their statements: YtanmndhdhlmjgaaTotals.lean).
  GIVEN WITH THE SEED: the statements are not yours to turn. If you find one false, say at which input.
  Laid BY PROGRAM, IN A SANDBOX (cutbox-rows.mjs): the forced cells as the released guide's own fill.sh prints them over the translation 92d3691129f0081f… (all of the seat's roots in one cut). By AI agents, Wed Nov 11 2026. No macro, syntax, notation, axiom, sorry.
-/
import Derived.Test.YtanmndhdhlmjgaaChecked
import GoSem.Claim
import GoSem.ClaimJoined
import GoSem.ClaimMapViews
import Derived.JoinedTies
import Derived.KernelRfl
namespace Go.Proofs.Ytanmndhdhlmjgaa
/- THE CELL 'sum', in the pinned program and in every row, IS THE sha256 OF THE DUMP (.gsa) THAT YtanmndhdhlmjgaaProg.lean LOADS. Nothing in Lean hashes anything: it is a label: what it is worth is what the hold of that sum in a sandbox is worth. -/
noncomputable def Try.pinned : Pinned := { name := "ytanmndhdhlmjgaa", sum := "92d3691129f0081faa20d5726af239a37408abb5d22d09ae43a1b9de4d6b71b9", checked := Try.checked }
namespace Rows
def none {H : Type} : Left H := { results := [], args := [] }

/-- 'standbylaw27.WindowMakes': WHATEVER THE INPUT: true; the input reads as it did. -/
def windowMakesSpec : ChangeSpec := { name := "windowMakes", fn := fun _ => fun
  | [d1, d2, d3] => { results := [.lit (.bool true)], args := [d1, d2, d3] }
  | _ => none }
def windowMakesRow : OpenClaim := { program := "ytanmndhdhlmjgaa", sum := "92d3691129f0081faa20d5726af239a37408abb5d22d09ae43a1b9de4d6b71b9", func := "standby/standbylaw27.WindowMakes", spec := "windowMakes", inPlace := ["slices.overlaps[standby/api.Arrived]"], unfollowed := true, recurses := true, apart := false }
def WindowMakesSaid : Prop := windowMakesRow.holds Try.pinned (OpenSpec.ofChange windowMakesSpec)

/-- ITS FALSE NEIGHBOUR: 'it returns false'. Refute it at one input. -/
def windowMakesWrong : ChangeSpec := { name := "windowMakes", fn := fun _ => fun
  | [d1, d2, d3] => { results := [.lit (.bool false)], args := [d1, d2, d3] }
  | _ => none }
def WindowMakesWrongFalsely : Prop := windowMakesRow.holds Try.pinned (OpenSpec.ofChange windowMakesWrong)

/-- 'standbylaw27.WindowPushes': WHATEVER THE INPUT: true; the input reads as it did. -/
def windowPushesSpec : ChangeSpec := { name := "windowPushes", fn := fun _ => fun
  | [d1, d2, d3] => { results := [.lit (.bool true)], args := [d1, d2, d3] }
  | _ => none }
def windowPushesRow : OpenClaim := { program := "ytanmndhdhlmjgaa", sum := "92d3691129f0081faa20d5726af239a37408abb5d22d09ae43a1b9de4d6b71b9", func := "standby/standbylaw27.WindowPushes", spec := "windowPushes", inPlace := ["slices.overlaps[standby/api.Arrived]"], unfollowed := true, recurses := true, apart := false }
def WindowPushesSaid : Prop := windowPushesRow.holds Try.pinned (OpenSpec.ofChange windowPushesSpec)

/-- ITS FALSE NEIGHBOUR: 'it returns false'. Refute it at one input. -/
def windowPushesWrong : ChangeSpec := { name := "windowPushes", fn := fun _ => fun
  | [d1, d2, d3] => { results := [.lit (.bool false)], args := [d1, d2, d3] }
  | _ => none }
def WindowPushesWrongFalsely : Prop := windowPushesRow.holds Try.pinned (OpenSpec.ofChange windowPushesWrong)

/-- 'standbylaw27.WindowAcknowledges': WHATEVER THE INPUT: true; the input reads as it did. -/
def windowAcknowledgesSpec : ChangeSpec := { name := "windowAcknowledges", fn := fun _ => fun
  | [d1, d2, d3] => { results := [.lit (.bool true)], args := [d1, d2, d3] }
  | _ => none }
def windowAcknowledgesRow : OpenClaim := { program := "ytanmndhdhlmjgaa", sum := "92d3691129f0081faa20d5726af239a37408abb5d22d09ae43a1b9de4d6b71b9", func := "standby/standbylaw27.WindowAcknowledges", spec := "windowAcknowledges", inPlace := ["slices.overlaps[standby/api.Arrived]"], unfollowed := true, recurses := true, apart := false }
def WindowAcknowledgesSaid : Prop := windowAcknowledgesRow.holds Try.pinned (OpenSpec.ofChange windowAcknowledgesSpec)

/-- ITS FALSE NEIGHBOUR: 'it returns false'. Refute it at one input. -/
def windowAcknowledgesWrong : ChangeSpec := { name := "windowAcknowledges", fn := fun _ => fun
  | [d1, d2, d3] => { results := [.lit (.bool false)], args := [d1, d2, d3] }
  | _ => none }
def WindowAcknowledgesWrongFalsely : Prop := windowAcknowledgesRow.holds Try.pinned (OpenSpec.ofChange windowAcknowledgesWrong)

/-- 'standbylaw27.WindowReceives': WHATEVER THE INPUT: true; the input reads as it did. -/
def windowReceivesSpec : ChangeSpec := { name := "windowReceives", fn := fun _ => fun
  | [d1, d2] => { results := [.lit (.bool true)], args := [d1, d2] }
  | _ => none }
def windowReceivesRow : OpenClaim := { program := "ytanmndhdhlmjgaa", sum := "92d3691129f0081faa20d5726af239a37408abb5d22d09ae43a1b9de4d6b71b9", func := "standby/standbylaw27.WindowReceives", spec := "windowReceives", inPlace := ["slices.overlaps[standby/api.Arrived]"], unfollowed := true, recurses := true, apart := false }
def WindowReceivesSaid : Prop := windowReceivesRow.holds Try.pinned (OpenSpec.ofChange windowReceivesSpec)

/-- ITS FALSE NEIGHBOUR: 'it returns false'. Refute it at one input. -/
def windowReceivesWrong : ChangeSpec := { name := "windowReceives", fn := fun _ => fun
  | [d1, d2] => { results := [.lit (.bool false)], args := [d1, d2] }
  | _ => none }
def WindowReceivesWrongFalsely : Prop := windowReceivesRow.holds Try.pinned (OpenSpec.ofChange windowReceivesWrong)

/-- 'standbylaw27.WindowDelivers': WHATEVER THE INPUT: true; the input reads as it did. -/
def windowDeliversSpec : ChangeSpec := { name := "windowDelivers", fn := fun _ => fun
  | [d1, d2, d3] => { results := [.lit (.bool true)], args := [d1, d2, d3] }
  | _ => none }
def windowDeliversRow : OpenClaim := { program := "ytanmndhdhlmjgaa", sum := "92d3691129f0081faa20d5726af239a37408abb5d22d09ae43a1b9de4d6b71b9", func := "standby/standbylaw27.WindowDelivers", spec := "windowDelivers", inPlace := ["slices.overlaps[standby/api.Arrived]"], unfollowed := true, recurses := true, apart := false }
def WindowDeliversSaid : Prop := windowDeliversRow.holds Try.pinned (OpenSpec.ofChange windowDeliversSpec)

/-- ITS FALSE NEIGHBOUR: 'it returns false'. Refute it at one input. -/
def windowDeliversWrong : ChangeSpec := { name := "windowDelivers", fn := fun _ => fun
  | [d1, d2, d3] => { results := [.lit (.bool false)], args := [d1, d2, d3] }
  | _ => none }
def WindowDeliversWrongFalsely : Prop := windowDeliversRow.holds Try.pinned (OpenSpec.ofChange windowDeliversWrong)

/-- 'standbylaw27.WindowCompletes': WHATEVER THE INPUT: true; the input reads as it did. -/
def windowCompletesSpec : ChangeSpec := { name := "windowCompletes", fn := fun _ => fun
  | [d1, d2, d3] => { results := [.lit (.bool true)], args := [d1, d2, d3] }
  | _ => none }
def windowCompletesRow : OpenClaim := { program := "ytanmndhdhlmjgaa", sum := "92d3691129f0081faa20d5726af239a37408abb5d22d09ae43a1b9de4d6b71b9", func := "standby/standbylaw27.WindowCompletes", spec := "windowCompletes", inPlace := ["slices.overlaps[standby/api.Arrived]"], unfollowed := true, recurses := true, apart := false }
def WindowCompletesSaid : Prop := windowCompletesRow.holds Try.pinned (OpenSpec.ofChange windowCompletesSpec)

/-- ITS FALSE NEIGHBOUR: 'it returns false'. Refute it at one input. -/
def windowCompletesWrong : ChangeSpec := { name := "windowCompletes", fn := fun _ => fun
  | [d1, d2, d3] => { results := [.lit (.bool false)], args := [d1, d2, d3] }
  | _ => none }
def WindowCompletesWrongFalsely : Prop := windowCompletesRow.holds Try.pinned (OpenSpec.ofChange windowCompletesWrong)

/-- 'standbylaw27.WindowLimits': WHATEVER THE INPUT: true; the input reads as it did. -/
def windowLimitsSpec : ChangeSpec := { name := "windowLimits", fn := fun _ => fun
  | [d1, d2, d3] => { results := [.lit (.bool true)], args := [d1, d2, d3] }
  | _ => none }
def windowLimitsRow : OpenClaim := { program := "ytanmndhdhlmjgaa", sum := "92d3691129f0081faa20d5726af239a37408abb5d22d09ae43a1b9de4d6b71b9", func := "standby/standbylaw27.WindowLimits", spec := "windowLimits", inPlace := ["slices.overlaps[standby/api.Arrived]"], unfollowed := true, recurses := true, apart := false }
def WindowLimitsSaid : Prop := windowLimitsRow.holds Try.pinned (OpenSpec.ofChange windowLimitsSpec)

/-- ITS FALSE NEIGHBOUR: 'it returns false'. Refute it at one input. -/
def windowLimitsWrong : ChangeSpec := { name := "windowLimits", fn := fun _ => fun
  | [d1, d2, d3] => { results := [.lit (.bool false)], args := [d1, d2, d3] }
  | _ => none }
def WindowLimitsWrongFalsely : Prop := windowLimitsRow.holds Try.pinned (OpenSpec.ofChange windowLimitsWrong)

/-- 'standbylaw27.WindowIgnores': WHATEVER THE INPUT: true; the input reads as it did. -/
def windowIgnoresSpec : ChangeSpec := { name := "windowIgnores", fn := fun _ => fun
  | [d1, d2, d3] => { results := [.lit (.bool true)], args := [d1, d2, d3] }
  | _ => none }
def windowIgnoresRow : OpenClaim := { program := "ytanmndhdhlmjgaa", sum := "92d3691129f0081faa20d5726af239a37408abb5d22d09ae43a1b9de4d6b71b9", func := "standby/standbylaw27.WindowIgnores", spec := "windowIgnores", inPlace := ["slices.overlaps[standby/api.Arrived]"], unfollowed := true, recurses := true, apart := false }
def WindowIgnoresSaid : Prop := windowIgnoresRow.holds Try.pinned (OpenSpec.ofChange windowIgnoresSpec)

/-- ITS FALSE NEIGHBOUR: 'it returns false'. Refute it at one input. -/
def windowIgnoresWrong : ChangeSpec := { name := "windowIgnores", fn := fun _ => fun
  | [d1, d2, d3] => { results := [.lit (.bool false)], args := [d1, d2, d3] }
  | _ => none }
def WindowIgnoresWrongFalsely : Prop := windowIgnoresRow.holds Try.pinned (OpenSpec.ofChange windowIgnoresWrong)

/- THE SECOND FORM. 'bulk': how many values and letters a reading holds, each counted each time it is reached (what is shared counts as often as it is met; a slice's spare places count too). A statement '..UptoSaid' is the law's where the arguments, and the package variables that the reading takes, are together of bulk at most 1048576: NARROWER than '..Said'. Prove '..Said' where nothing that the law and all that it calls make is longer than what came in: it says more and counts as full. Else prove '..UptoSaid'. A law counts once. -/
mutual
def uptoBulk {H : Type} : DataW H → Nat
  | .lit (.string bytes) => bytes.length + 1
  | .lit _ => 1
  | .nil => 1
  | .ptr d => uptoBulk d + 1
  | .slice elems spare => uptoBulkAll elems + uptoBulkAll spare + 1
  | .agg parts => uptoBulkAll parts + 1
  | .iface _ d => uptoBulk d + 1
  | .map entries => uptoBulkEntries entries + 1
  | .held _ => 1
def uptoBulkAll {H : Type} : List (DataW H) → Nat
  | [] => 0
  | d :: r => uptoBulk d + uptoBulkAll r
def uptoBulkEntries {H : Type} : List (Lit × DataW H) → Nat
  | [] => 0
  | x :: r => uptoBulkEntry x + uptoBulkEntries r
def uptoBulkEntry {H : Type} : Lit × DataW H → Nat
  | (.string bytes, d) => bytes.length + uptoBulk d + 1
  | (_, d) => uptoBulk d + 1
 end
def uptoSmall : (H : Type) → List (DataW H) → Bool := fun _ ds => decide (uptoBulkAll ds ≤ 1048576)
def OpenSpec.upto (s : _root_.Go.ChangeSpec) : _root_.Go.OpenSpec := { _root_.Go.OpenSpec.ofChange s with cond := some uptoSmall }

/-- 'standbylaw27.WindowMakes', WHERE WHAT IT READS IS OF BULK AT MOST 1048576: true; the input reads as it did. -/
def windowMakesUptoRow : OpenClaim := { program := "ytanmndhdhlmjgaa", sum := "92d3691129f0081faa20d5726af239a37408abb5d22d09ae43a1b9de4d6b71b9", func := "standby/standbylaw27.WindowMakes", spec := "windowMakes", inPlace := ["slices.overlaps[standby/api.Arrived]"], unfollowed := true, recurses := true, apart := false, narrowed := true }
def WindowMakesUptoSaid : Prop := windowMakesUptoRow.holds Try.pinned (OpenSpec.upto windowMakesSpec)

/-- 'standbylaw27.WindowPushes', WHERE WHAT IT READS IS OF BULK AT MOST 1048576: true; the input reads as it did. -/
def windowPushesUptoRow : OpenClaim := { program := "ytanmndhdhlmjgaa", sum := "92d3691129f0081faa20d5726af239a37408abb5d22d09ae43a1b9de4d6b71b9", func := "standby/standbylaw27.WindowPushes", spec := "windowPushes", inPlace := ["slices.overlaps[standby/api.Arrived]"], unfollowed := true, recurses := true, apart := false, narrowed := true }
def WindowPushesUptoSaid : Prop := windowPushesUptoRow.holds Try.pinned (OpenSpec.upto windowPushesSpec)

/-- 'standbylaw27.WindowAcknowledges', WHERE WHAT IT READS IS OF BULK AT MOST 1048576: true; the input reads as it did. -/
def windowAcknowledgesUptoRow : OpenClaim := { program := "ytanmndhdhlmjgaa", sum := "92d3691129f0081faa20d5726af239a37408abb5d22d09ae43a1b9de4d6b71b9", func := "standby/standbylaw27.WindowAcknowledges", spec := "windowAcknowledges", inPlace := ["slices.overlaps[standby/api.Arrived]"], unfollowed := true, recurses := true, apart := false, narrowed := true }
def WindowAcknowledgesUptoSaid : Prop := windowAcknowledgesUptoRow.holds Try.pinned (OpenSpec.upto windowAcknowledgesSpec)

/-- 'standbylaw27.WindowReceives', WHERE WHAT IT READS IS OF BULK AT MOST 1048576: true; the input reads as it did. -/
def windowReceivesUptoRow : OpenClaim := { program := "ytanmndhdhlmjgaa", sum := "92d3691129f0081faa20d5726af239a37408abb5d22d09ae43a1b9de4d6b71b9", func := "standby/standbylaw27.WindowReceives", spec := "windowReceives", inPlace := ["slices.overlaps[standby/api.Arrived]"], unfollowed := true, recurses := true, apart := false, narrowed := true }
def WindowReceivesUptoSaid : Prop := windowReceivesUptoRow.holds Try.pinned (OpenSpec.upto windowReceivesSpec)

/-- 'standbylaw27.WindowDelivers', WHERE WHAT IT READS IS OF BULK AT MOST 1048576: true; the input reads as it did. -/
def windowDeliversUptoRow : OpenClaim := { program := "ytanmndhdhlmjgaa", sum := "92d3691129f0081faa20d5726af239a37408abb5d22d09ae43a1b9de4d6b71b9", func := "standby/standbylaw27.WindowDelivers", spec := "windowDelivers", inPlace := ["slices.overlaps[standby/api.Arrived]"], unfollowed := true, recurses := true, apart := false, narrowed := true }
def WindowDeliversUptoSaid : Prop := windowDeliversUptoRow.holds Try.pinned (OpenSpec.upto windowDeliversSpec)

/-- 'standbylaw27.WindowCompletes', WHERE WHAT IT READS IS OF BULK AT MOST 1048576: true; the input reads as it did. -/
def windowCompletesUptoRow : OpenClaim := { program := "ytanmndhdhlmjgaa", sum := "92d3691129f0081faa20d5726af239a37408abb5d22d09ae43a1b9de4d6b71b9", func := "standby/standbylaw27.WindowCompletes", spec := "windowCompletes", inPlace := ["slices.overlaps[standby/api.Arrived]"], unfollowed := true, recurses := true, apart := false, narrowed := true }
def WindowCompletesUptoSaid : Prop := windowCompletesUptoRow.holds Try.pinned (OpenSpec.upto windowCompletesSpec)

/-- 'standbylaw27.WindowLimits', WHERE WHAT IT READS IS OF BULK AT MOST 1048576: true; the input reads as it did. -/
def windowLimitsUptoRow : OpenClaim := { program := "ytanmndhdhlmjgaa", sum := "92d3691129f0081faa20d5726af239a37408abb5d22d09ae43a1b9de4d6b71b9", func := "standby/standbylaw27.WindowLimits", spec := "windowLimits", inPlace := ["slices.overlaps[standby/api.Arrived]"], unfollowed := true, recurses := true, apart := false, narrowed := true }
def WindowLimitsUptoSaid : Prop := windowLimitsUptoRow.holds Try.pinned (OpenSpec.upto windowLimitsSpec)

/-- 'standbylaw27.WindowIgnores', WHERE WHAT IT READS IS OF BULK AT MOST 1048576: true; the input reads as it did. -/
def windowIgnoresUptoRow : OpenClaim := { program := "ytanmndhdhlmjgaa", sum := "92d3691129f0081faa20d5726af239a37408abb5d22d09ae43a1b9de4d6b71b9", func := "standby/standbylaw27.WindowIgnores", spec := "windowIgnores", inPlace := ["slices.overlaps[standby/api.Arrived]"], unfollowed := true, recurses := true, apart := false, narrowed := true }
def WindowIgnoresUptoSaid : Prop := windowIgnoresUptoRow.holds Try.pinned (OpenSpec.upto windowIgnoresSpec)

end Rows
end Go.Proofs.Ytanmndhdhlmjgaa
