/-
  No cell of these rows narrows 'for every input' (looked for: loops, veiled, ifaces, maps, wideKeys, modest, calm, conditions, laid).
  DERIVED. THE GIVEN ROWS OF THIS SEAT. 7 by the template 'for every input the law returns true; each argument reads behind the call as it read before'; 0 by the template 'total and deterministic' (their statements: YtncpafibcpphfaaTotals.lean).
  GIVEN WITH THE SEED: the statements are not yours to turn. If you find one false, say at which input.
  Laid BY PROGRAM, IN A SANDBOX (cutbox-rows.mjs): the forced cells as the released guide's own fill.sh prints them over the translation 847e500ac8dee05f… (all of the seat's roots in one cut). By AI agents, Wed Nov 11 2026. No macro, syntax, notation, axiom, sorry.
-/
import Derived.Test.YtncpafibcpphfaaChecked
import GoSem.Claim
import GoSem.ClaimJoined
import GoSem.ClaimMapViews
import Derived.JoinedTies
import Derived.KernelRfl
namespace Go.Proofs.Ytncpafibcpphfaa
/- THE CELL 'sum', in the pinned program and in every row, IS THE sha256 OF THE DUMP (.gsa) THAT YtncpafibcpphfaaProg.lean LOADS. Nothing in Lean hashes anything: it is a label: what it is worth is what the hold of that sum in a sandbox is worth. -/
noncomputable def Try.pinned : Pinned := { name := "ytncpafibcpphfaa", sum := "847e500ac8dee05f8b19fe3d33322345e8bd77bc7b1fc513fe77d9a095df908b", checked := Try.checked }
namespace Rows
def none {H : Type} : Left H := { results := [], args := [] }

/-- 'standbylaw04.ChecksumCombines': WHATEVER THE INPUT: true; the input reads as it did. -/
def checksumCombinesSpec : ChangeSpec := { name := "checksumCombines", fn := fun _ => fun
  | [d1, d2, d3] => { results := [.lit (.bool true)], args := [d1, d2, d3] }
  | _ => none }
def checksumCombinesRow : OpenClaim := { program := "ytncpafibcpphfaa", sum := "847e500ac8dee05f8b19fe3d33322345e8bd77bc7b1fc513fe77d9a095df908b", func := "standby/standbylaw04.ChecksumCombines", spec := "checksumCombines", unfollowed := true, recurses := true, apart := false }
def ChecksumCombinesSaid : Prop := checksumCombinesRow.holds Try.pinned (OpenSpec.ofChange checksumCombinesSpec)

/-- ITS FALSE NEIGHBOUR: 'it returns false'. Refute it at one input. -/
def checksumCombinesWrong : ChangeSpec := { name := "checksumCombines", fn := fun _ => fun
  | [d1, d2, d3] => { results := [.lit (.bool false)], args := [d1, d2, d3] }
  | _ => none }
def ChecksumCombinesWrongFalsely : Prop := checksumCombinesRow.holds Try.pinned (OpenSpec.ofChange checksumCombinesWrong)

/-- 'standbylaw04.ChecksumJoins': WHATEVER THE INPUT: true; the input reads as it did. -/
def checksumJoinsSpec : ChangeSpec := { name := "checksumJoins", fn := fun _ => fun
  | [d1, d2] => { results := [.lit (.bool true)], args := [d1, d2] }
  | _ => none }
def checksumJoinsRow : OpenClaim := { program := "ytncpafibcpphfaa", sum := "847e500ac8dee05f8b19fe3d33322345e8bd77bc7b1fc513fe77d9a095df908b", func := "standby/standbylaw04.ChecksumJoins", spec := "checksumJoins", unfollowed := true, recurses := true, apart := false }
def ChecksumJoinsSaid : Prop := checksumJoinsRow.holds Try.pinned (OpenSpec.ofChange checksumJoinsSpec)

/-- ITS FALSE NEIGHBOUR: 'it returns false'. Refute it at one input. -/
def checksumJoinsWrong : ChangeSpec := { name := "checksumJoins", fn := fun _ => fun
  | [d1, d2] => { results := [.lit (.bool false)], args := [d1, d2] }
  | _ => none }
def ChecksumJoinsWrongFalsely : Prop := checksumJoinsRow.holds Try.pinned (OpenSpec.ofChange checksumJoinsWrong)

/-- 'standbylaw04.ChecksumDetects': WHATEVER THE INPUT: true; the input reads as it did. -/
def checksumDetectsSpec : ChangeSpec := { name := "checksumDetects", fn := fun _ => fun
  | [d1, d2, d3] => { results := [.lit (.bool true)], args := [d1, d2, d3] }
  | _ => none }
def checksumDetectsRow : OpenClaim := { program := "ytncpafibcpphfaa", sum := "847e500ac8dee05f8b19fe3d33322345e8bd77bc7b1fc513fe77d9a095df908b", func := "standby/standbylaw04.ChecksumDetects", spec := "checksumDetects", unfollowed := true, recurses := true, apart := false }
def ChecksumDetectsSaid : Prop := checksumDetectsRow.holds Try.pinned (OpenSpec.ofChange checksumDetectsSpec)

/-- ITS FALSE NEIGHBOUR: 'it returns false'. Refute it at one input. -/
def checksumDetectsWrong : ChangeSpec := { name := "checksumDetects", fn := fun _ => fun
  | [d1, d2, d3] => { results := [.lit (.bool false)], args := [d1, d2, d3] }
  | _ => none }
def ChecksumDetectsWrongFalsely : Prop := checksumDetectsRow.holds Try.pinned (OpenSpec.ofChange checksumDetectsWrong)

/-- 'standbylaw04.ChecksumAdds': WHATEVER THE INPUT: true; the input reads as it did. -/
def checksumAddsSpec : ChangeSpec := { name := "checksumAdds", fn := fun _ => fun
  | [d1, d2, d3] => { results := [.lit (.bool true)], args := [d1, d2, d3] }
  | _ => none }
def checksumAddsRow : OpenClaim := { program := "ytncpafibcpphfaa", sum := "847e500ac8dee05f8b19fe3d33322345e8bd77bc7b1fc513fe77d9a095df908b", func := "standby/standbylaw04.ChecksumAdds", spec := "checksumAdds", unfollowed := true, recurses := true, apart := false }
def ChecksumAddsSaid : Prop := checksumAddsRow.holds Try.pinned (OpenSpec.ofChange checksumAddsSpec)

/-- ITS FALSE NEIGHBOUR: 'it returns false'. Refute it at one input. -/
def checksumAddsWrong : ChangeSpec := { name := "checksumAdds", fn := fun _ => fun
  | [d1, d2, d3] => { results := [.lit (.bool false)], args := [d1, d2, d3] }
  | _ => none }
def ChecksumAddsWrongFalsely : Prop := checksumAddsRow.holds Try.pinned (OpenSpec.ofChange checksumAddsWrong)

/-- 'standbylaw04.ChecksumDiffers': WHATEVER THE INPUT: true; the input reads as it did. -/
def checksumDiffersSpec : ChangeSpec := { name := "checksumDiffers", fn := fun _ => fun
  | [d1, d2, d3] => { results := [.lit (.bool true)], args := [d1, d2, d3] }
  | _ => none }
def checksumDiffersRow : OpenClaim := { program := "ytncpafibcpphfaa", sum := "847e500ac8dee05f8b19fe3d33322345e8bd77bc7b1fc513fe77d9a095df908b", func := "standby/standbylaw04.ChecksumDiffers", spec := "checksumDiffers", unfollowed := true, recurses := true, apart := false }
def ChecksumDiffersSaid : Prop := checksumDiffersRow.holds Try.pinned (OpenSpec.ofChange checksumDiffersSpec)

/-- ITS FALSE NEIGHBOUR: 'it returns false'. Refute it at one input. -/
def checksumDiffersWrong : ChangeSpec := { name := "checksumDiffers", fn := fun _ => fun
  | [d1, d2, d3] => { results := [.lit (.bool false)], args := [d1, d2, d3] }
  | _ => none }
def ChecksumDiffersWrongFalsely : Prop := checksumDiffersRow.holds Try.pinned (OpenSpec.ofChange checksumDiffersWrong)

/-- 'standbylaw04.ChecksumDigests': WHATEVER THE INPUT: true; the input reads as it did. -/
def checksumDigestsSpec : ChangeSpec := { name := "checksumDigests", fn := fun _ => fun
  | [d] => { results := [.lit (.bool true)], args := [d] }
  | _ => none }
def checksumDigestsRow : OpenClaim := { program := "ytncpafibcpphfaa", sum := "847e500ac8dee05f8b19fe3d33322345e8bd77bc7b1fc513fe77d9a095df908b", func := "standby/standbylaw04.ChecksumDigests", spec := "checksumDigests", unfollowed := true, recurses := true, apart := false }
def ChecksumDigestsSaid : Prop := checksumDigestsRow.holds Try.pinned (OpenSpec.ofChange checksumDigestsSpec)

/-- ITS FALSE NEIGHBOUR: 'it returns false'. Refute it at one input. -/
def checksumDigestsWrong : ChangeSpec := { name := "checksumDigests", fn := fun _ => fun
  | [d] => { results := [.lit (.bool false)], args := [d] }
  | _ => none }
def ChecksumDigestsWrongFalsely : Prop := checksumDigestsRow.holds Try.pinned (OpenSpec.ofChange checksumDigestsWrong)

/-- 'standbylaw04.ChecksumParts': WHATEVER THE INPUT: true; the input reads as it did. -/
def checksumPartsSpec : ChangeSpec := { name := "checksumParts", fn := fun _ => fun
  | [d1, d2, d3] => { results := [.lit (.bool true)], args := [d1, d2, d3] }
  | _ => none }
def checksumPartsRow : OpenClaim := { program := "ytncpafibcpphfaa", sum := "847e500ac8dee05f8b19fe3d33322345e8bd77bc7b1fc513fe77d9a095df908b", func := "standby/standbylaw04.ChecksumParts", spec := "checksumParts", unfollowed := true, recurses := true, apart := false }
def ChecksumPartsSaid : Prop := checksumPartsRow.holds Try.pinned (OpenSpec.ofChange checksumPartsSpec)

/-- ITS FALSE NEIGHBOUR: 'it returns false'. Refute it at one input. -/
def checksumPartsWrong : ChangeSpec := { name := "checksumParts", fn := fun _ => fun
  | [d1, d2, d3] => { results := [.lit (.bool false)], args := [d1, d2, d3] }
  | _ => none }
def ChecksumPartsWrongFalsely : Prop := checksumPartsRow.holds Try.pinned (OpenSpec.ofChange checksumPartsWrong)

/- THE SECOND FORM. 'bulk': how many values and letters a reading holds, each counted each time it is reached (what is shared counts as often as it is met; a slice's spare places count too). A statement '..UptoSaid' is the law's where the arguments, and the package variables that the reading takes, are together of bulk at most 1048576: NARROWER than '..Said'. Prove '..Said' where nothing that the law and all that it calls make is longer than what came in: it says more and counts as full. Else prove '..UptoSaid'. A law counts once. -/
mutual
def uptoBulk {H : Type} : DataW H → Nat
  | .lit (.string bytes) => bytes.length + 1
  | .lit _ => 1
  | .nil => 1
  | .ptr d => uptoBulk d + 1
  | .slice elems spare => uptoBulkAll elems + uptoBulkAll spare + 1
  | .agg parts => uptoBulkAll parts + 1
  | .iface _ d => uptoBulk d + 1
  | .map entries => uptoBulkEntries entries + 1
  | .held _ => 1
def uptoBulkAll {H : Type} : List (DataW H) → Nat
  | [] => 0
  | d :: r => uptoBulk d + uptoBulkAll r
def uptoBulkEntries {H : Type} : List (Lit × DataW H) → Nat
  | [] => 0
  | x :: r => uptoBulkEntry x + uptoBulkEntries r
def uptoBulkEntry {H : Type} : Lit × DataW H → Nat
  | (.string bytes, d) => bytes.length + uptoBulk d + 1
  | (_, d) => uptoBulk d + 1
 end
def uptoSmall : (H : Type) → List (DataW H) → Bool := fun _ ds => decide (uptoBulkAll ds ≤ 1048576)
def OpenSpec.upto (s : _root_.Go.ChangeSpec) : _root_.Go.OpenSpec := { _root_.Go.OpenSpec.ofChange s with cond := some uptoSmall }

/-- 'standbylaw04.ChecksumCombines', WHERE WHAT IT READS IS OF BULK AT MOST 1048576: true; the input reads as it did. -/
def checksumCombinesUptoRow : OpenClaim := { program := "ytncpafibcpphfaa", sum := "847e500ac8dee05f8b19fe3d33322345e8bd77bc7b1fc513fe77d9a095df908b", func := "standby/standbylaw04.ChecksumCombines", spec := "checksumCombines", unfollowed := true, recurses := true, apart := false, narrowed := true }
def ChecksumCombinesUptoSaid : Prop := checksumCombinesUptoRow.holds Try.pinned (OpenSpec.upto checksumCombinesSpec)

/-- 'standbylaw04.ChecksumJoins', WHERE WHAT IT READS IS OF BULK AT MOST 1048576: true; the input reads as it did. -/
def checksumJoinsUptoRow : OpenClaim := { program := "ytncpafibcpphfaa", sum := "847e500ac8dee05f8b19fe3d33322345e8bd77bc7b1fc513fe77d9a095df908b", func := "standby/standbylaw04.ChecksumJoins", spec := "checksumJoins", unfollowed := true, recurses := true, apart := false, narrowed := true }
def ChecksumJoinsUptoSaid : Prop := checksumJoinsUptoRow.holds Try.pinned (OpenSpec.upto checksumJoinsSpec)

/-- 'standbylaw04.ChecksumDetects', WHERE WHAT IT READS IS OF BULK AT MOST 1048576: true; the input reads as it did. -/
def checksumDetectsUptoRow : OpenClaim := { program := "ytncpafibcpphfaa", sum := "847e500ac8dee05f8b19fe3d33322345e8bd77bc7b1fc513fe77d9a095df908b", func := "standby/standbylaw04.ChecksumDetects", spec := "checksumDetects", unfollowed := true, recurses := true, apart := false, narrowed := true }
def ChecksumDetectsUptoSaid : Prop := checksumDetectsUptoRow.holds Try.pinned (OpenSpec.upto checksumDetectsSpec)

/-- 'standbylaw04.ChecksumAdds', WHERE WHAT IT READS IS OF BULK AT MOST 1048576: true; the input reads as it did. -/
def checksumAddsUptoRow : OpenClaim := { program := "ytncpafibcpphfaa", sum := "847e500ac8dee05f8b19fe3d33322345e8bd77bc7b1fc513fe77d9a095df908b", func := "standby/standbylaw04.ChecksumAdds", spec := "checksumAdds", unfollowed := true, recurses := true, apart := false, narrowed := true }
def ChecksumAddsUptoSaid : Prop := checksumAddsUptoRow.holds Try.pinned (OpenSpec.upto checksumAddsSpec)

/-- 'standbylaw04.ChecksumDiffers', WHERE WHAT IT READS IS OF BULK AT MOST 1048576: true; the input reads as it did. -/
def checksumDiffersUptoRow : OpenClaim := { program := "ytncpafibcpphfaa", sum := "847e500ac8dee05f8b19fe3d33322345e8bd77bc7b1fc513fe77d9a095df908b", func := "standby/standbylaw04.ChecksumDiffers", spec := "checksumDiffers", unfollowed := true, recurses := true, apart := false, narrowed := true }
def ChecksumDiffersUptoSaid : Prop := checksumDiffersUptoRow.holds Try.pinned (OpenSpec.upto checksumDiffersSpec)

/-- 'standbylaw04.ChecksumDigests', WHERE WHAT IT READS IS OF BULK AT MOST 1048576: true; the input reads as it did. -/
def checksumDigestsUptoRow : OpenClaim := { program := "ytncpafibcpphfaa", sum := "847e500ac8dee05f8b19fe3d33322345e8bd77bc7b1fc513fe77d9a095df908b", func := "standby/standbylaw04.ChecksumDigests", spec := "checksumDigests", unfollowed := true, recurses := true, apart := false, narrowed := true }
def ChecksumDigestsUptoSaid : Prop := checksumDigestsUptoRow.holds Try.pinned (OpenSpec.upto checksumDigestsSpec)

/-- 'standbylaw04.ChecksumParts', WHERE WHAT IT READS IS OF BULK AT MOST 1048576: true; the input reads as it did. -/
def checksumPartsUptoRow : OpenClaim := { program := "ytncpafibcpphfaa", sum := "847e500ac8dee05f8b19fe3d33322345e8bd77bc7b1fc513fe77d9a095df908b", func := "standby/standbylaw04.ChecksumParts", spec := "checksumParts", unfollowed := true, recurses := true, apart := false, narrowed := true }
def ChecksumPartsUptoSaid : Prop := checksumPartsUptoRow.holds Try.pinned (OpenSpec.upto checksumPartsSpec)

end Rows
end Go.Proofs.Ytncpafibcpphfaa
