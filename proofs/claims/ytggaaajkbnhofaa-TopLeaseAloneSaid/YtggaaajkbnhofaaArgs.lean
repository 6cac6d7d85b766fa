/- What the statement's arguments are, as values. No condition. -/
import Derived.Test.YtggaaajkbnhofaaArgLibN
import Derived.Test.YtggaaajkbnhofaaRows
namespace Go.Proofs.Ytggaaajkbnhofaa
open Go.RowKit Go.ChangeShapes Go.WideShapes Go.Deep
section
variable {H : Type} {enc : TypeId × Value → H} {w : World} {r : Reach} {b0 base : Nat} {spare : Nat → Bool} {held : Bool} {v : Value} {d : DataW H} {p : List MemPlace}
abbrev I64 := { x : Int // -9223372036854775808 ≤ x ∧ x ≤ 9223372036854775807 }
theorem cells3 : Try.prog.cellsOf 3 = 1 := by kernel_rfl
theorem cells27 : Try.prog.cellsOf 27 = 3 := by kernel_rfl
def Arg5 (_ : World) (v : Value) : Prop := ∃ a : Nat, v = .int .u8 a ∧ a < 256
theorem arg5 (hv : Value.okWide Try.prog w r b0 5 v) (h : DataW.Trod enc Try.prog w base spare held 5 v d p) : Arg5 w v := by
  obtain ⟨a, rfl, _, _, w0⟩ := open_int Try.underlying5 hv h
  have hb := bounds_u8 w0
  exact ⟨a.toNat, by simp [Int.toNat_of_nonneg hb.1], by omega⟩
abbrev S3 := I64 × I64 × I64
def enS (x : S3) : List Value := [.int .i64 x.1.1, .int .i64 x.2.1.1, .int .i64 x.2.2.1]
theorem flat27 : Flat Try.prog 27 enS := by
  intro H enc w base spare held fuel cs x h
  obtain ⟨hl, hf⟩ := struct_cells Try.underlying27 h
  rw [cells27] at hl
  match cs, hl with
  | [c0, c1, c2], _ =>
    obtain ⟨m0, x0, g0⟩ := hf 0 _ rfl
    have h0 : DataW.trod enc Try.prog w base spare held m0 3 ((([c0, c1, c2] : List Value).drop 0).take (Try.prog.cellsOf 3)) = some x0 := g0
    rw [cells3] at h0
    obtain ⟨a0, e0⟩ := flat_i64 Try.underlying3 h0
    obtain ⟨m1, x1, g1⟩ := hf 1 _ rfl
    have h1 : DataW.trod enc Try.prog w base spare held m1 3 ((([c0, c1, c2] : List Value).drop 1).take (Try.prog.cellsOf 3)) = some x1 := g1
    rw [cells3] at h1
    obtain ⟨a1, e1⟩ := flat_i64 Try.underlying3 h1
    obtain ⟨m2, x2, g2⟩ := hf 2 _ rfl
    have h2 : DataW.trod enc Try.prog w base spare held m2 3 ((([c0, c1, c2] : List Value).drop 2).take (Try.prog.cellsOf 3)) = some x2 := g2
    rw [cells3] at h2
    obtain ⟨a2, e2⟩ := flat_i64 Try.underlying3 h2
    simp at e0 e1 e2
    subst e0 e1 e2
    exact ⟨(a0, a1, a2), rfl⟩
def Arg22 (w : World) (v : Value) : Prop := ∃ (A : Option Addr) (c : Nat) (l : List S3), v = .slice A (List.length l) c ∧ Reads w w.heap.size 3 A l.length (l.flatMap enS) ∧ l.length ≤ c ∧ c ≤ maxLen
theorem arg22 (hv : Value.okWide Try.prog w r b0 22 v) (h : DataW.Trod enc Try.prog w base spare held 22 v d p) : Arg22 w v := by
  obtain ⟨A, n, c, xs, rfl, h1, h2, h3, h4⟩ := flat_slice flat27 cells27 (by omega) (fun a => rfl) Try.underlying22 hv h
  subst h1
  exact ⟨A, c, xs, rfl, h4, h2, h3⟩
end
end Go.Proofs.Ytggaaajkbnhofaa
