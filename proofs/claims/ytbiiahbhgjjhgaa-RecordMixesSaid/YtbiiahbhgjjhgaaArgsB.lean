/- Slices of bools as values. No condition. -/
import Derived.Test.YtbiiahbhgjjhgaaArgs
namespace Go.Proofs.Ytbiiahbhgjjhgaa
open Go.RowKit Go.ChangeShapes Go.WideShapes Go.Deep
section
variable {H : Type} {enc : TypeId × Value → H} {w : World} {r : Reach} {b0 base : Nat} {spare : Nat → Bool} {held : Bool} {v : Value} {d : DataW H} {p : List MemPlace}
theorem cells4 : Try.prog.cellsOf 4 = 1 := by kernel_rfl
def bools (l : List Bool) : List Value := l.flatMap fun b => [.bool b]
def Arg45 (w : World) (v : Value) : Prop := ∃ (A : Option Addr) (n c : Nat) (l : List Bool), v = .slice A n c ∧ Reads w w.heap.size 1 A n (bools l) ∧ n ≤ c ∧ c ≤ maxLen
theorem arg45 (hv : Value.okWide Try.prog w r b0 45 v) (h : DataW.Trod enc Try.prog w base spare held 45 v d p) : Arg45 w v := by
  obtain ⟨A, n, c, xs, rfl, _, h2, h3, h4⟩ := flat_slice (flat_bool Try.underlying4) cells4 (by omega) (fun _ => rfl) Try.underlying45 hv h
  exact ⟨A, n, c, xs, rfl, h4, h2, h3⟩
end
end Go.Proofs.Ytbiiahbhgjjhgaa
