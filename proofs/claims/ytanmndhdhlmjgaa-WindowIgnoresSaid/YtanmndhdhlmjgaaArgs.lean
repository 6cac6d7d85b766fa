/- What the statements' arguments are, as values: numbers. No condition. -/
import Derived.Test.YtanmndhdhlmjgaaLib
import Derived.Test.YtanmndhdhlmjgaaVa
import Derived.Test.YtanmndhdhlmjgaaRows
namespace Go.Proofs.Ytanmndhdhlmjgaa
open Go.RowKit Go.ChangeShapes Go.WideShapes Go.Deep
section
set_option maxRecDepth 100000
variable {H : Type} {enc : TypeId × Value → H} {w : World} {r : Reach} {b0 base : Nat} {spare : Nat → Bool} {held : Bool} {v : Value} {d : DataW H} {p : List MemPlace}
def Arg3 (_ : World) (v : Value) : Prop := ∃ a : Int, v = .int .i64 a ∧ -9223372036854775808 ≤ a ∧ a ≤ 9223372036854775807
theorem arg3 (hv : Value.okWide Try.prog w r b0 3 v) (h : DataW.Trod enc Try.prog w base spare held 3 v d p) : Arg3 w v := by
  obtain ⟨a, rfl, _, _, w0⟩ := open_int Try.underlying3 hv h
  have hb := bounds_i64 w0
  exact ⟨a, rfl, hb.1, hb.2⟩
def Arg5 (_ : World) (v : Value) : Prop := ∃ a : Nat, v = .int .u8 a ∧ a < 256
theorem arg5 (hv : Value.okWide Try.prog w r b0 5 v) (h : DataW.Trod enc Try.prog w base spare held 5 v d p) : Arg5 w v := by
  obtain ⟨a, rfl, _, _, w0⟩ := open_int Try.underlying5 hv h
  have hb := bounds_u8 w0
  exact ⟨a.toNat, by simp [Int.toNat_of_nonneg hb.1], by omega⟩
end
end Go.Proofs.Ytanmndhdhlmjgaa
