/-
  No cell of these rows narrows 'for every input' (looked for: loops, veiled, ifaces, maps, wideKeys, modest, calm, conditions, laid).
  DERIVED. THE GIVEN ROWS OF THIS SEAT. 8 by the template 'for every input the law returns true; each argument reads behind the call as it read before'; 0 by the template 'total and deterministic' (their statements: YtjaoppopfeonhaaTotals.lean).
  GIVEN WITH THE SEED: the statements are not yours to turn. If you find one false, say at which input.
  Laid BY PROGRAM, IN A SANDBOX (cutbox-rows.mjs): the forced cells as the released guide's own fill.sh prints them over the translation 870ad5bfee22fa69… (all of the seat's roots in one cut). By AI agents, Wed Nov 11 2026. No macro, syntax, notation, axiom, sorry.
-/
import Derived.Test.YtjaoppopfeonhaaChecked
import GoSem.Claim
import GoSem.ClaimJoined
import GoSem.ClaimMapViews
import Derived.JoinedTies
import Derived.KernelRfl
namespace Go.Proofs.Ytjaoppopfeonhaa
/- THE CELL 'sum', in the pinned program and in every row, IS THE sha256 OF THE DUMP (.gsa) THAT YtjaoppopfeonhaaProg.lean LOADS. Nothing in Lean hashes anything: it is a label: what it is worth is what the hold of that sum in a sandbox is worth. -/
noncomputable def Try.pinned : Pinned := { name := "ytjaoppopfeonhaa", sum := "870ad5bfee22fa694d304c792efbf7058e59e9616f708339eb83c6e2309fdd7a", checked := Try.checked }
namespace Rows
def none {H : Type} : Left H := { results := [], args := [] }

/-- 'standbylaw10.LinkChecks': WHATEVER THE INPUT: true; the input reads as it did. -/
def linkChecksSpec : ChangeSpec := { name := "linkChecks", fn := fun _ => fun
  | [d] => { results := [.lit (.bool true)], args := [d] }
  | _ => none }
def linkChecksRow : OpenClaim := { program := "ytjaoppopfeonhaa", sum := "870ad5bfee22fa694d304c792efbf7058e59e9616f708339eb83c6e2309fdd7a", func := "standby/standbylaw10.LinkChecks", spec := "linkChecks", inPlace := ["slices.overlaps[standby/api.Flight]"], unfollowed := true, recurses := true, apart := false }
def LinkChecksSaid : Prop := linkChecksRow.holds Try.pinned (OpenSpec.ofChange linkChecksSpec)

/-- ITS FALSE NEIGHBOUR: 'it returns false'. Refute it at one input. -/
def linkChecksWrong : ChangeSpec := { name := "linkChecks", fn := fun _ => fun
  | [d] => { results := [.lit (.bool false)], args := [d] }
  | _ => none }
def LinkChecksWrongFalsely : Prop := linkChecksRow.holds Try.pinned (OpenSpec.ofChange linkChecksWrong)

/-- 'standbylaw10.LinkSends': WHATEVER THE INPUT: true; the input reads as it did. -/
def linkSendsSpec : ChangeSpec := { name := "linkSends", fn := fun _ => fun
  | [d1, d2, d3] => { results := [.lit (.bool true)], args := [d1, d2, d3] }
  | _ => none }
def linkSendsRow : OpenClaim := { program := "ytjaoppopfeonhaa", sum := "870ad5bfee22fa694d304c792efbf7058e59e9616f708339eb83c6e2309fdd7a", func := "standby/standbylaw10.LinkSends", spec := "linkSends", inPlace := ["slices.overlaps[standby/api.Flight]"], unfollowed := true, recurses := true, apart := false }
def LinkSendsSaid : Prop := linkSendsRow.holds Try.pinned (OpenSpec.ofChange linkSendsSpec)

/-- ITS FALSE NEIGHBOUR: 'it returns false'. Refute it at one input. -/
def linkSendsWrong : ChangeSpec := { name := "linkSends", fn := fun _ => fun
  | [d1, d2, d3] => { results := [.lit (.bool false)], args := [d1, d2, d3] }
  | _ => none }
def LinkSendsWrongFalsely : Prop := linkSendsRow.holds Try.pinned (OpenSpec.ofChange linkSendsWrong)

/-- 'standbylaw10.LinkConserves': WHATEVER THE INPUT: true; the input reads as it did. -/
def linkConservesSpec : ChangeSpec := { name := "linkConserves", fn := fun _ => fun
  | [d] => { results := [.lit (.bool true)], args := [d] }
  | _ => none }
def linkConservesRow : OpenClaim := { program := "ytjaoppopfeonhaa", sum := "870ad5bfee22fa694d304c792efbf7058e59e9616f708339eb83c6e2309fdd7a", func := "standby/standbylaw10.LinkConserves", spec := "linkConserves", inPlace := ["slices.overlaps[standby/api.Flight]"], unfollowed := true, recurses := true, apart := false }
def LinkConservesSaid : Prop := linkConservesRow.holds Try.pinned (OpenSpec.ofChange linkConservesSpec)

/-- ITS FALSE NEIGHBOUR: 'it returns false'. Refute it at one input. -/
def linkConservesWrong : ChangeSpec := { name := "linkConserves", fn := fun _ => fun
  | [d] => { results := [.lit (.bool false)], args := [d] }
  | _ => none }
def LinkConservesWrongFalsely : Prop := linkConservesRow.holds Try.pinned (OpenSpec.ofChange linkConservesWrong)

/-- 'standbylaw10.LinkTimes': WHATEVER THE INPUT: true; the input reads as it did. -/
def linkTimesSpec : ChangeSpec := { name := "linkTimes", fn := fun _ => fun
  | [d1, d2] => { results := [.lit (.bool true)], args := [d1, d2] }
  | _ => none }
def linkTimesRow : OpenClaim := { program := "ytjaoppopfeonhaa", sum := "870ad5bfee22fa694d304c792efbf7058e59e9616f708339eb83c6e2309fdd7a", func := "standby/standbylaw10.LinkTimes", spec := "linkTimes", inPlace := ["slices.overlaps[standby/api.Flight]"], unfollowed := true, recurses := true, apart := false }
def LinkTimesSaid : Prop := linkTimesRow.holds Try.pinned (OpenSpec.ofChange linkTimesSpec)

/-- ITS FALSE NEIGHBOUR: 'it returns false'. Refute it at one input. -/
def linkTimesWrong : ChangeSpec := { name := "linkTimes", fn := fun _ => fun
  | [d1, d2] => { results := [.lit (.bool false)], args := [d1, d2] }
  | _ => none }
def LinkTimesWrongFalsely : Prop := linkTimesRow.holds Try.pinned (OpenSpec.ofChange linkTimesWrong)

/-- 'standbylaw10.LinkRates': WHATEVER THE INPUT: true; the input reads as it did. -/
def linkRatesSpec : ChangeSpec := { name := "linkRates", fn := fun _ => fun
  | [d1, d2, d3] => { results := [.lit (.bool true)], args := [d1, d2, d3] }
  | _ => none }
def linkRatesRow : OpenClaim := { program := "ytjaoppopfeonhaa", sum := "870ad5bfee22fa694d304c792efbf7058e59e9616f708339eb83c6e2309fdd7a", func := "standby/standbylaw10.LinkRates", spec := "linkRates", inPlace := ["slices.overlaps[standby/api.Flight]"], unfollowed := true, recurses := true, apart := false }
def LinkRatesSaid : Prop := linkRatesRow.holds Try.pinned (OpenSpec.ofChange linkRatesSpec)

/-- ITS FALSE NEIGHBOUR: 'it returns false'. Refute it at one input. -/
def linkRatesWrong : ChangeSpec := { name := "linkRates", fn := fun _ => fun
  | [d1, d2, d3] => { results := [.lit (.bool false)], args := [d1, d2, d3] }
  | _ => none }
def LinkRatesWrongFalsely : Prop := linkRatesRow.holds Try.pinned (OpenSpec.ofChange linkRatesWrong)

/-- 'standbylaw10.LinkOrders': WHATEVER THE INPUT: true; the input reads as it did. -/
def linkOrdersSpec : ChangeSpec := { name := "linkOrders", fn := fun _ => fun
  | [d] => { results := [.lit (.bool true)], args := [d] }
  | _ => none }
def linkOrdersRow : OpenClaim := { program := "ytjaoppopfeonhaa", sum := "870ad5bfee22fa694d304c792efbf7058e59e9616f708339eb83c6e2309fdd7a", func := "standby/standbylaw10.LinkOrders", spec := "linkOrders", inPlace := ["slices.overlaps[standby/api.Flight]"], unfollowed := true, recurses := true, apart := false }
def LinkOrdersSaid : Prop := linkOrdersRow.holds Try.pinned (OpenSpec.ofChange linkOrdersSpec)

/-- ITS FALSE NEIGHBOUR: 'it returns false'. Refute it at one input. -/
def linkOrdersWrong : ChangeSpec := { name := "linkOrders", fn := fun _ => fun
  | [d] => { results := [.lit (.bool false)], args := [d] }
  | _ => none }
def LinkOrdersWrongFalsely : Prop := linkOrdersRow.holds Try.pinned (OpenSpec.ofChange linkOrdersWrong)

/-- 'standbylaw10.LinkDelivers': WHATEVER THE INPUT: true; the input reads as it did. -/
def linkDeliversSpec : ChangeSpec := { name := "linkDelivers", fn := fun _ => fun
  | [d1, d2] => { results := [.lit (.bool true)], args := [d1, d2] }
  | _ => none }
def linkDeliversRow : OpenClaim := { program := "ytjaoppopfeonhaa", sum := "870ad5bfee22fa694d304c792efbf7058e59e9616f708339eb83c6e2309fdd7a", func := "standby/standbylaw10.LinkDelivers", spec := "linkDelivers", inPlace := ["slices.overlaps[standby/api.Flight]"], unfollowed := true, recurses := true, apart := false }
def LinkDeliversSaid : Prop := linkDeliversRow.holds Try.pinned (OpenSpec.ofChange linkDeliversSpec)

/-- ITS FALSE NEIGHBOUR: 'it returns false'. Refute it at one input. -/
def linkDeliversWrong : ChangeSpec := { name := "linkDelivers", fn := fun _ => fun
  | [d1, d2] => { results := [.lit (.bool false)], args := [d1, d2] }
  | _ => none }
def LinkDeliversWrongFalsely : Prop := linkDeliversRow.holds Try.pinned (OpenSpec.ofChange linkDeliversWrong)

/-- 'standbylaw10.LinkCuts': WHATEVER THE INPUT: true; the input reads as it did. -/
def linkCutsSpec : ChangeSpec := { name := "linkCuts", fn := fun _ => fun
  | [d1, d2] => { results := [.lit (.bool true)], args := [d1, d2] }
  | _ => none }
def linkCutsRow : OpenClaim := { program := "ytjaoppopfeonhaa", sum := "870ad5bfee22fa694d304c792efbf7058e59e9616f708339eb83c6e2309fdd7a", func := "standby/standbylaw10.LinkCuts", spec := "linkCuts", inPlace := ["slices.overlaps[standby/api.Flight]"], unfollowed := true, recurses := true, apart := false }
def LinkCutsSaid : Prop := linkCutsRow.holds Try.pinned (OpenSpec.ofChange linkCutsSpec)

/-- ITS FALSE NEIGHBOUR: 'it returns false'. Refute it at one input. -/
def linkCutsWrong : ChangeSpec := { name := "linkCuts", fn := fun _ => fun
  | [d1, d2] => { results := [.lit (.bool false)], args := [d1, d2] }
  | _ => none }
def LinkCutsWrongFalsely : Prop := linkCutsRow.holds Try.pinned (OpenSpec.ofChange linkCutsWrong)

/- THE SECOND FORM. 'bulk': how many values and letters a reading holds, each counted each time it is reached (what is shared counts as often as it is met; a slice's spare places count too). A statement '..UptoSaid' is the law's where the arguments, and the package variables that the reading takes, are together of bulk at most 1048576: NARROWER than '..Said'. Prove '..Said' where nothing that the law and all that it calls make is longer than what came in: it says more and counts as full. Else prove '..UptoSaid'. A law counts once. -/
mutual
def uptoBulk {H : Type} : DataW H → Nat
  | .lit (.string bytes) => bytes.length + 1
  | .lit _ => 1
  | .nil => 1
  | .ptr d => uptoBulk d + 1
  | .slice elems spare => uptoBulkAll elems + uptoBulkAll spare + 1
  | .agg parts => uptoBulkAll parts + 1
  | .iface _ d => uptoBulk d + 1
  | .map entries => uptoBulkEntries entries + 1
  | .held _ => 1
def uptoBulkAll {H : Type} : List (DataW H) → Nat
  | [] => 0
  | d :: r => uptoBulk d + uptoBulkAll r
def uptoBulkEntries {H : Type} : List (Lit × DataW H) → Nat
  | [] => 0
  | x :: r => uptoBulkEntry x + uptoBulkEntries r
def uptoBulkEntry {H : Type} : Lit × DataW H → Nat
  | (.string bytes, d) => bytes.length + uptoBulk d + 1
  | (_, d) => uptoBulk d + 1
 end
def uptoSmall : (H : Type) → List (DataW H) → Bool := fun _ ds => decide (uptoBulkAll ds ≤ 1048576)
def OpenSpec.upto (s : _root_.Go.ChangeSpec) : _root_.Go.OpenSpec := { _root_.Go.OpenSpec.ofChange s with cond := some uptoSmall }

/-- 'standbylaw10.LinkChecks', WHERE WHAT IT READS IS OF BULK AT MOST 1048576: true; the input reads as it did. -/
def linkChecksUptoRow : OpenClaim := { program := "ytjaoppopfeonhaa", sum := "870ad5bfee22fa694d304c792efbf7058e59e9616f708339eb83c6e2309fdd7a", func := "standby/standbylaw10.LinkChecks", spec := "linkChecks", inPlace := ["slices.overlaps[standby/api.Flight]"], unfollowed := true, recurses := true, apart := false, narrowed := true }
def LinkChecksUptoSaid : Prop := linkChecksUptoRow.holds Try.pinned (OpenSpec.upto linkChecksSpec)

/-- 'standbylaw10.LinkSends', WHERE WHAT IT READS IS OF BULK AT MOST 1048576: true; the input reads as it did. -/
def linkSendsUptoRow : OpenClaim := { program := "ytjaoppopfeonhaa", sum := "870ad5bfee22fa694d304c792efbf7058e59e9616f708339eb83c6e2309fdd7a", func := "standby/standbylaw10.LinkSends", spec := "linkSends", inPlace := ["slices.overlaps[standby/api.Flight]"], unfollowed := true, recurses := true, apart := false, narrowed := true }
def LinkSendsUptoSaid : Prop := linkSendsUptoRow.holds Try.pinned (OpenSpec.upto linkSendsSpec)

/-- 'standbylaw10.LinkConserves', WHERE WHAT IT READS IS OF BULK AT MOST 1048576: true; the input reads as it did. -/
def linkConservesUptoRow : OpenClaim := { program := "ytjaoppopfeonhaa", sum := "870ad5bfee22fa694d304c792efbf7058e59e9616f708339eb83c6e2309fdd7a", func := "standby/standbylaw10.LinkConserves", spec := "linkConserves", inPlace := ["slices.overlaps[standby/api.Flight]"], unfollowed := true, recurses := true, apart := false, narrowed := true }
def LinkConservesUptoSaid : Prop := linkConservesUptoRow.holds Try.pinned (OpenSpec.upto linkConservesSpec)

/-- 'standbylaw10.LinkTimes', WHERE WHAT IT READS IS OF BULK AT MOST 1048576: true; the input reads as it did. -/
def linkTimesUptoRow : OpenClaim := { program := "ytjaoppopfeonhaa", sum := "870ad5bfee22fa694d304c792efbf7058e59e9616f708339eb83c6e2309fdd7a", func := "standby/standbylaw10.LinkTimes", spec := "linkTimes", inPlace := ["slices.overlaps[standby/api.Flight]"], unfollowed := true, recurses := true, apart := false, narrowed := true }
def LinkTimesUptoSaid : Prop := linkTimesUptoRow.holds Try.pinned (OpenSpec.upto linkTimesSpec)

/-- 'standbylaw10.LinkRates', WHERE WHAT IT READS IS OF BULK AT MOST 1048576: true; the input reads as it did. -/
def linkRatesUptoRow : OpenClaim := { program := "ytjaoppopfeonhaa", sum := "870ad5bfee22fa694d304c792efbf7058e59e9616f708339eb83c6e2309fdd7a", func := "standby/standbylaw10.LinkRates", spec := "linkRates", inPlace := ["slices.overlaps[standby/api.Flight]"], unfollowed := true, recurses := true, apart := false, narrowed := true }
def LinkRatesUptoSaid : Prop := linkRatesUptoRow.holds Try.pinned (OpenSpec.upto linkRatesSpec)

/-- 'standbylaw10.LinkOrders', WHERE WHAT IT READS IS OF BULK AT MOST 1048576: true; the input reads as it did. -/
def linkOrdersUptoRow : OpenClaim := { program := "ytjaoppopfeonhaa", sum := "870ad5bfee22fa694d304c792efbf7058e59e9616f708339eb83c6e2309fdd7a", func := "standby/standbylaw10.LinkOrders", spec := "linkOrders", inPlace := ["slices.overlaps[standby/api.Flight]"], unfollowed := true, recurses := true, apart := false, narrowed := true }
def LinkOrdersUptoSaid : Prop := linkOrdersUptoRow.holds Try.pinned (OpenSpec.upto linkOrdersSpec)

/-- 'standbylaw10.LinkDelivers', WHERE WHAT IT READS IS OF BULK AT MOST 1048576: true; the input reads as it did. -/
def linkDeliversUptoRow : OpenClaim := { program := "ytjaoppopfeonhaa", sum := "870ad5bfee22fa694d304c792efbf7058e59e9616f708339eb83c6e2309fdd7a", func := "standby/standbylaw10.LinkDelivers", spec := "linkDelivers", inPlace := ["slices.overlaps[standby/api.Flight]"], unfollowed := true, recurses := true, apart := false, narrowed := true }
def LinkDeliversUptoSaid : Prop := linkDeliversUptoRow.holds Try.pinned (OpenSpec.upto linkDeliversSpec)

/-- 'standbylaw10.LinkCuts', WHERE WHAT IT READS IS OF BULK AT MOST 1048576: true; the input reads as it did. -/
def linkCutsUptoRow : OpenClaim := { program := "ytjaoppopfeonhaa", sum := "870ad5bfee22fa694d304c792efbf7058e59e9616f708339eb83c6e2309fdd7a", func := "standby/standbylaw10.LinkCuts", spec := "linkCuts", inPlace := ["slices.overlaps[standby/api.Flight]"], unfollowed := true, recurses := true, apart := false, narrowed := true }
def LinkCutsUptoSaid : Prop := linkCutsUptoRow.holds Try.pinned (OpenSpec.upto linkCutsSpec)

end Rows
end Go.Proofs.Ytjaoppopfeonhaa
