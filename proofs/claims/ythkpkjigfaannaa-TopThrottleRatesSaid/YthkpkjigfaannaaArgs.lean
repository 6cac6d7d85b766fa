/- What the statements' arguments are, as values. No condition. -/
import Derived.Test.YthkpkjigfaannaaArgLib
import Derived.Test.YthkpkjigfaannaaWh
namespace Go.Proofs.Ythkpkjigfaannaa
open Go.RowKit Go.ChangeShapes Go.WideShapes Go.Deep
section
variable {P : Program} {H : Type} {enc : TypeId × Value → H} {w : World} {r : Reach} {b0 base : Nat} {spare : Nat → Bool} {held : Bool} {v : Value} {d : DataW H} {p : List MemPlace}
theorem cells3 : Try.prog.cellsOf 3 = 1 := by kernel_rfl
theorem cells22 : Try.prog.cellsOf 22 = 1 := by kernel_rfl
theorem cells24 : Try.prog.cellsOf 24 = 5 := by kernel_rfl
theorem cells74 : Try.prog.cellsOf 74 = 2 := by kernel_rfl
abbrev I64 := { n : Int // -9223372036854775808 ≤ n ∧ n ≤ 9223372036854775807 }
def enc74 (x : I64 × I64) : List Value := [.int .i64 x.1.1, .int .i64 x.2.1]
theorem struct_cells {t : TypeId} {fs : Array Field} {cs : List Value} {x : DataW H × List MemPlace} {fuel : Nat} (ht : P.underlying t = some (.struct fs)) (h : DataW.trod enc P w base spare held fuel t cs = some x) :
    cs.length = P.cellsOf t ∧ ∀ (i : Nat) (f : Field), fs[i]? = some f → ∃ (m : Nat) (x : DataW H × List MemPlace), DataW.trod enc P w base spare held m f.type ((cs.drop f.offset).take (P.cellsOf f.type)) = some x := by
  obtain ⟨xs, m, _, _, hl, hlen, hi⟩ := DataW.trod_struct ht h
  refine ⟨hl, fun i f hfi => ?_⟩
  have hil : i < fs.size := (Array.getElem?_eq_some_iff.1 hfi).1
  have := hi i f hfi
  rw [List.getElem?_eq_getElem (by omega)] at this
  exact ⟨m, _, this⟩
set_option maxRecDepth 100000 in
theorem flat74 : Flat Try.prog 74 enc74 := by
  intro H enc w base spare held fuel cs x h
  obtain ⟨hl, hf⟩ := struct_cells Try.underlying74 h
  rw [cells74] at hl
  match cs, hl with
  | [c0, c1], _ =>
    obtain ⟨m0, x0, g0⟩ := hf 0 _ rfl
    have h0 : DataW.trod enc Try.prog w base spare held m0 3 ((([c0, c1] : List Value).drop 0).take (Try.prog.cellsOf 3)) = some x0 := g0
    obtain ⟨m1, x1, g1⟩ := hf 1 _ rfl
    have h1 : DataW.trod enc Try.prog w base spare held m1 3 ((([c0, c1] : List Value).drop 1).take (Try.prog.cellsOf 3)) = some x1 := g1
    rw [cells3] at h0 h1
    obtain ⟨a0, e0⟩ := flat_i64 Try.underlying3 h0
    obtain ⟨a1, e1⟩ := flat_i64 Try.underlying3 h1
    simp at e0 e1
    subst e0 e1
    exact ⟨(a0, a1), rfl⟩
def Arg3 (_ : World) (v : Value) : Prop := ∃ a : Int, v = .int .i64 a ∧ -9223372036854775808 ≤ a ∧ a ≤ 9223372036854775807
set_option maxRecDepth 100000 in
theorem arg3 (hv : Value.okWide Try.prog w r b0 3 v) (h : DataW.Trod enc Try.prog w base spare held 3 v d p) : Arg3 w v := by
  obtain ⟨a, rfl, _, _, w0⟩ := open_int Try.underlying3 hv h
  have hb := bounds_i64 w0
  exact ⟨a, rfl, hb.1, hb.2⟩
theorem marks_of (xs : List (I64 × I64)) : xs.flatMap enc74 = (xs.map fun x => Mk.mk x.1.1 x.2.1).flatMap encM := by
  rw [List.flatMap_map]; rfl
def Arg24 (w : World) (v : Value) : Prop := ∃ (T : Th) (A : Option Addr) (n c : Nat), v = .agg #[.int .i64 T.o, .int .i64 T.r, .int .i64 T.t, .int .i64 T.b, .slice A n c] ∧ RdM w A n T.l ∧ n ≤ c ∧ c ≤ maxLen
set_option maxRecDepth 100000 in
theorem arg24 (hv : Value.okWide Try.prog w r b0 24 v) (h : DataW.Trod enc Try.prog w base spare held 24 v d p) : Arg24 w v := by
  obtain ⟨cs, rfl, hl, hf⟩ := struct_fields Try.underlying24 hv h
  rw [cells24] at hl
  match cs, hl with
  | [c0, c1, c2, c3, c4], _ =>
    obtain ⟨m0, x0, g0⟩ := hf 0 _ rfl
    have h0 : DataW.trod enc Try.prog w base spare held m0 3 ((([c0, c1, c2, c3, c4] : List Value).drop 0).take (Try.prog.cellsOf 3)) = some x0 := g0
    obtain ⟨m1, x1, g1⟩ := hf 1 _ rfl
    have h1 : DataW.trod enc Try.prog w base spare held m1 3 ((([c0, c1, c2, c3, c4] : List Value).drop 1).take (Try.prog.cellsOf 3)) = some x1 := g1
    obtain ⟨m2, x2, g2⟩ := hf 2 _ rfl
    have h2 : DataW.trod enc Try.prog w base spare held m2 3 ((([c0, c1, c2, c3, c4] : List Value).drop 2).take (Try.prog.cellsOf 3)) = some x2 := g2
    obtain ⟨m3, x3, g3⟩ := hf 3 _ rfl
    have h3 : DataW.trod enc Try.prog w base spare held m3 3 ((([c0, c1, c2, c3, c4] : List Value).drop 3).take (Try.prog.cellsOf 3)) = some x3 := g3
    obtain ⟨m4, x4, g4⟩ := hf 4 _ rfl
    have h4 : DataW.trod enc Try.prog w base spare held m4 22 ((([c0, c1, c2, c3, c4] : List Value).drop 4).take (Try.prog.cellsOf 22)) = some x4 := g4
    rw [cells3] at h0 h1 h2 h3
    rw [cells22] at h4
    obtain ⟨a0, e0⟩ := flat_i64 Try.underlying3 h0
    obtain ⟨a1, e1⟩ := flat_i64 Try.underlying3 h1
    obtain ⟨a2, e2⟩ := flat_i64 Try.underlying3 h2
    obtain ⟨a3, e3⟩ := flat_i64 Try.underlying3 h3
    obtain ⟨A, n, c, xs, e4, hn, hc, hm, hr⟩ := flat_slice_cells flat74 cells74 (by omega) (fun _ => rfl) Try.underlying22 h4
    simp at e0 e1 e2 e3 e4
    subst e0 e1 e2 e3 e4
    rw [marks_of] at hr
    exact ⟨⟨a0.1, a1.1, a2.1, a3.1, _⟩, A, n, c, rfl, hr, hc, hm⟩
end
end Go.Proofs.Ythkpkjigfaannaa
