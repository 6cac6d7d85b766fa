/- What the statements' arguments are, as values: budgets, numbers. No condition. -/
import Derived.Test.YtehfnanhamaenaaArgLib
import Derived.Test.YtehfnanhamaenaaWb
namespace Go.Proofs.Ytehfnanhamaenaa
open Go.RowKit Go.ChangeShapes Go.WideShapes Go.Deep
section
variable {P : Program} {H : Type} {enc : TypeId × Value → H} {w : World} {r : Reach} {b0 base : Nat} {spare : Nat → Bool} {held : Bool} {v : Value} {d : DataW H} {p : List MemPlace}
theorem struct_cells {t : TypeId} {fs : Array Field} {cs : List Value} {x : DataW H × List MemPlace} {fuel : Nat} (ht : P.underlying t = some (.struct fs)) (h : DataW.trod enc P w base spare held fuel t cs = some x) :
    cs.length = P.cellsOf t ∧ ∀ (i : Nat) (f : Field), fs[i]? = some f → ∃ (m : Nat) (x : DataW H × List MemPlace), DataW.trod enc P w base spare held m f.type ((cs.drop f.offset).take (P.cellsOf f.type)) = some x := by
  obtain ⟨xs, m, _, _, hl, hlen, hi⟩ := DataW.trod_struct ht h
  refine ⟨hl, fun i f hfi => ?_⟩
  have hil : i < fs.size := (Array.getElem?_eq_some_iff.1 hfi).1
  have := hi i f hfi
  rw [List.getElem?_eq_getElem (by omega)] at this
  exact ⟨m, _, this⟩
theorem cells64 : Try.prog.cellsOf 64 = 4 := by kernel_rfl
theorem cells3 : Try.prog.cellsOf 3 = 1 := by kernel_rfl
theorem cells22 : Try.prog.cellsOf 22 = 1 := by kernel_rfl
theorem cells24 : Try.prog.cellsOf 24 = 2 := by kernel_rfl
theorem flat64 : Flat Try.prog 64 encB := by
  intro H enc w base spare held fuel cs x h
  obtain ⟨hl, hf⟩ := struct_cells Try.underlying64 h
  rw [cells64] at hl
  match cs, hl with
  | [c0, c1, c2, c3], _ =>
    obtain ⟨m0, x0, g0⟩ := hf 0 _ rfl
    have h0 : DataW.trod enc Try.prog w base spare held m0 3 ((([c0, c1, c2, c3] : List Value).drop 0).take (Try.prog.cellsOf 3)) = some x0 := g0
    obtain ⟨m1, x1, g1⟩ := hf 1 _ rfl
    have h1 : DataW.trod enc Try.prog w base spare held m1 3 ((([c0, c1, c2, c3] : List Value).drop 1).take (Try.prog.cellsOf 3)) = some x1 := g1
    obtain ⟨m2, x2, g2⟩ := hf 2 _ rfl
    have h2 : DataW.trod enc Try.prog w base spare held m2 3 ((([c0, c1, c2, c3] : List Value).drop 2).take (Try.prog.cellsOf 3)) = some x2 := g2
    obtain ⟨m3, x3, g3⟩ := hf 3 _ rfl
    have h3 : DataW.trod enc Try.prog w base spare held m3 3 ((([c0, c1, c2, c3] : List Value).drop 3).take (Try.prog.cellsOf 3)) = some x3 := g3
    rw [cells3] at h0 h1 h2 h3
    obtain ⟨a0, e0⟩ := flat_i64 Try.underlying3 h0
    obtain ⟨a1, e1⟩ := flat_i64 Try.underlying3 h1
    obtain ⟨a2, e2⟩ := flat_i64 Try.underlying3 h2
    obtain ⟨a3, e3⟩ := flat_i64 Try.underlying3 h3
    simp at e0 e1 e2 e3
    subst e0 e1 e2 e3
    exact ⟨⟨a0.1, a1.1, a2.1, a3.1⟩, rfl⟩
def Arg3 (_ : World) (v : Value) : Prop := ∃ a : Int, v = .int .i64 a ∧ -9223372036854775808 ≤ a ∧ a ≤ 9223372036854775807
theorem arg3 (hv : Value.okWide Try.prog w r b0 3 v) (h : DataW.Trod enc Try.prog w base spare held 3 v d p) : Arg3 w v := by
  obtain ⟨a, rfl, _, _, w0⟩ := open_int Try.underlying3 hv h
  have hb := bounds_i64 w0
  exact ⟨a, rfl, hb.1, hb.2⟩
def Arg24 (w : World) (v : Value) : Prop := ∃ (t : Int) (A : Option Addr) (n c : Nat) (l : List Bk), v = budV t A n c ∧ RdB w A n l ∧ n ≤ c ∧ c ≤ maxLen
theorem arg24 (hv : Value.okWide Try.prog w r b0 24 v) (h : DataW.Trod enc Try.prog w base spare held 24 v d p) : Arg24 w v := by
  obtain ⟨cs, rfl, hl, hf⟩ := struct_fields Try.underlying24 hv h
  rw [cells24] at hl
  match cs, hl with
  | [c0, c1], _ =>
    obtain ⟨m0, x0, g0⟩ := hf 0 _ rfl
    have h0 : DataW.trod enc Try.prog w base spare held m0 3 ((([c0, c1] : List Value).drop 0).take (Try.prog.cellsOf 3)) = some x0 := g0
    obtain ⟨m1, x1, g1⟩ := hf 1 _ rfl
    have h1 : DataW.trod enc Try.prog w base spare held m1 22 ((([c0, c1] : List Value).drop 1).take (Try.prog.cellsOf 22)) = some x1 := g1
    rw [cells3] at h0
    rw [cells22] at h1
    obtain ⟨a0, e0⟩ := flat_i64 Try.underlying3 h0
    obtain ⟨A, n, c, l, e1, hn, hc, hm, hr⟩ := flat_slice_cells flat64 cells64 (by omega) encB_len Try.underlying22 h1
    simp at e0 e1
    subst e0 e1
    exact ⟨a0.1, A, n, c, l, rfl, hr, hc, hm⟩
end
end Go.Proofs.Ytehfnanhamaenaa
