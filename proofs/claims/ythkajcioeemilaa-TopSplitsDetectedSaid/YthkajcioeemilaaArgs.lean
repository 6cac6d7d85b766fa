/- What the statement's arguments are, as values. No condition. -/
import Derived.Test.YthkajcioeemilaaArgLib
import Derived.Test.YthkajcioeemilaaRows
namespace Go.Proofs.Ythkajcioeemilaa
open Go.RowKit Go.ChangeShapes Go.WideShapes
section
variable {H : Type} {enc : TypeId × Value → H} {w : World} {r : Reach} {b0 base : Nat} {spare : Nat → Bool} {held : Bool} {v : Value} {d : DataW H} {p : List MemPlace}
theorem cells5 : Try.prog.cellsOf 5 = 1 := by kernel_rfl
theorem cells22 : Try.prog.cellsOf 22 = 2 * 1 := by kernel_rfl
def Arg5 (_ : World) (v : Value) : Prop := ∃ a : Nat, v = .int .u8 a ∧ a < 256
theorem arg5 (hv : Value.okWide Try.prog w r b0 5 v) (h : DataW.Trod enc Try.prog w base spare held 5 v d p) : Arg5 w v := by
  obtain ⟨a, rfl, _, _, w0⟩ := open_int Try.underlying5 hv h
  have hb := bounds_u8 w0
  exact ⟨a.toNat, by simp [Int.toNat_of_nonneg hb.1], by omega⟩
def Arg22 (_ : World) (v : Value) : Prop := ∃ a b : Nat, v = .agg #[.int .u8 a, .int .u8 b] ∧ a < 256 ∧ b < 256
theorem arg22 (hv : Value.okWide Try.prog w r b0 22 v) (h : DataW.Trod enc Try.prog w base spare held 22 v d p) : Arg22 w v := by
  obtain ⟨⟨l, hl⟩, rfl⟩ := flat_arr_val (flat_array (n := 2) (flat_u8 Try.underlying5) cells5 cells22 Try.underlying22) Try.underlying22 hv h
  match l, hl with
  | [x, y], _ => exact ⟨x.1, y.1, rfl, x.2, y.2⟩
end
end Go.Proofs.Ythkajcioeemilaa
