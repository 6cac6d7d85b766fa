/- What the statements' arguments are, as values: numbers, events, queues. No condition. -/
import Derived.Test.YtknedclejhiegaaArgLibN
import Derived.Test.YtknedclejhiegaaWa
import Derived.Test.YtknedclejhiegaaRows
namespace Go.Proofs.Ytknedclejhiegaa
open Go.RowKit Go.ChangeShapes Go.WideShapes Go.Deep
section
variable {H : Type} {enc : TypeId × Value → H} {w : World} {r : Reach} {b0 base : Nat} {spare : Nat → Bool} {held : Bool} {v : Value} {d : DataW H} {p : List MemPlace}
abbrev B8 := { x : Nat // x < 256 }
theorem cells3 : Try.prog.cellsOf 3 = 1 := by kernel_rfl
theorem cells5 : Try.prog.cellsOf 5 = 1 := by kernel_rfl
theorem cells22 : Try.prog.cellsOf 22 = 1 := by kernel_rfl
theorem cells24 : Try.prog.cellsOf 24 = 2 := by kernel_rfl
theorem cells30 : Try.prog.cellsOf 30 = 1 := by kernel_rfl
theorem cells32 : Try.prog.cellsOf 32 = 5 := by kernel_rfl
theorem b8_flat (l : List B8) : (l.flatMap fun x => [Value.int .u8 (x.1 : Int)]) = u8s (l.map (·.1)) := by
  unfold u8s
  induction l with
  | nil => rfl
  | cons x l ih => rw [List.flatMap_cons, ih]; rfl
def Arg3 (_ : World) (v : Value) : Prop := ∃ a : Int, v = .int .i64 a ∧ -9223372036854775808 ≤ a ∧ a ≤ 9223372036854775807
theorem arg3 (hv : Value.okWide Try.prog w r b0 3 v) (h : DataW.Trod enc Try.prog w base spare held 3 v d p) : Arg3 w v := by
  obtain ⟨a, rfl, _, _, w0⟩ := open_int Try.underlying3 hv h
  have hb := bounds_i64 w0
  exact ⟨a, rfl, hb.1, hb.2⟩
def Arg5 (_ : World) (v : Value) : Prop := ∃ a : Nat, v = .int .u8 a ∧ a < 256
theorem arg5 (hv : Value.okWide Try.prog w r b0 5 v) (h : DataW.Trod enc Try.prog w base spare held 5 v d p) : Arg5 w v := by
  obtain ⟨a, rfl, _, _, w0⟩ := open_int Try.underlying5 hv h
  have hb := bounds_u8 w0
  exact ⟨a.toNat, by simp [Int.toNat_of_nonneg hb.1], by omega⟩
theorem deep32 : DeepE Try.prog 32 encEv (fun w e => EvR w e ∧ e.p.length ≤ e.c ∧ e.c ≤ maxLen) := by
  intro H enc w base spare held fuel cs x h
  obtain ⟨hl, hf⟩ := struct_cells Try.underlying32 h
  rw [cells32] at hl
  match cs, hl with
  | [c0, c1, c2, c3, c4], _ =>
    obtain ⟨m0, x0, g0⟩ := hf 0 _ rfl
    have h0 : DataW.trod enc Try.prog w base spare held m0 3 ((([c0, c1, c2, c3, c4] : List Value).drop 0).take (Try.prog.cellsOf 3)) = some x0 := g0
    obtain ⟨m1, x1, g1⟩ := hf 1 _ rfl
    have h1 : DataW.trod enc Try.prog w base spare held m1 3 ((([c0, c1, c2, c3, c4] : List Value).drop 1).take (Try.prog.cellsOf 3)) = some x1 := g1
    obtain ⟨m2, x2, g2⟩ := hf 2 _ rfl
    have h2 : DataW.trod enc Try.prog w base spare held m2 3 ((([c0, c1, c2, c3, c4] : List Value).drop 2).take (Try.prog.cellsOf 3)) = some x2 := g2
    obtain ⟨m3, x3, g3⟩ := hf 3 _ rfl
    have h3 : DataW.trod enc Try.prog w base spare held m3 3 ((([c0, c1, c2, c3, c4] : List Value).drop 3).take (Try.prog.cellsOf 3)) = some x3 := g3
    obtain ⟨m4, x4, g4⟩ := hf 4 _ rfl
    have h4 : DataW.trod enc Try.prog w base spare held m4 30 ((([c0, c1, c2, c3, c4] : List Value).drop 4).take (Try.prog.cellsOf 30)) = some x4 := g4
    rw [cells3] at h0 h1 h2 h3
    rw [cells30] at h4
    obtain ⟨a0, e0⟩ := flat_i64 Try.underlying3 h0
    obtain ⟨a1, e1⟩ := flat_i64 Try.underlying3 h1
    obtain ⟨a2, e2⟩ := flat_i64 Try.underlying3 h2
    obtain ⟨a3, e3⟩ := flat_i64 Try.underlying3 h3
    obtain ⟨A, n, c, xs, e4, hn, hc, hm, hr⟩ := flat_slice_cells (flat_u8 Try.underlying5) cells5 (by omega) (fun a => rfl) Try.underlying30 h4
    simp at e0 e1 e2 e3 e4
    subst e0 e1 e2 e3 e4
    rw [b8_flat] at hr
    have hpl : (xs.map (·.1)).length = n := by rw [List.length_map, hn]
    refine ⟨⟨a0.1, a1.1, a2.1, a3.1, A, c, xs.map (·.1)⟩, by simp only [encEv]; rw [hpl], ?_, ?_, hm⟩
    · unfold EvR
      dsimp only
      rw [hpl]
      exact hr
    · dsimp only
      omega
def Arg32 (w : World) (v : Value) : Prop := ∃ (t n k o : Int) (A : Option Addr) (c : Nat) (p : List Nat), v = .agg (evC t n k o A p.length c) ∧ Reads w w.heap.size 1 A p.length (u8s p)
theorem arg32 (hv : Value.okWide Try.prog w r b0 32 v) (h : DataW.Trod enc Try.prog w base spare held 32 v d p) : Arg32 w v := by
  obtain ⟨cs, rfl, _⟩ := okWide_struct Try.underlying32 hv
  obtain ⟨fuel, hf⟩ := h
  obtain ⟨e, he, hq, _⟩ := deep32 hf
  refine ⟨e.t, e.n, e.k, e.o, e.A, e.c, e.p, ?_, hq⟩
  have h2 : cs = (encEv e).toArray := by
    rw [← he]
    simp [Value.cells]
  rw [h2]
  rfl
def Arg24 (w : World) (v : Value) : Prop := ∃ (A : Option Addr) (m c : Nat) (l : List Ev) (nx : Int), v = .agg #[.slice A m c, .int .i64 nx] ∧ Evs w A m l ∧ m ≤ c ∧ c ≤ maxLen
theorem arg24 (hv : Value.okWide Try.prog w r b0 24 v) (h : DataW.Trod enc Try.prog w base spare held 24 v d p) : Arg24 w v := by
  obtain ⟨cs, rfl, hl, hf⟩ := struct_fields Try.underlying24 hv h
  rw [cells24] at hl
  match cs, hl with
  | [c0, c1], _ =>
    obtain ⟨m0, x0, g0⟩ := hf 0 _ rfl
    have h0 : DataW.trod enc Try.prog w base spare held m0 22 ((([c0, c1] : List Value).drop 0).take (Try.prog.cellsOf 22)) = some x0 := g0
    obtain ⟨m1, x1, g1⟩ := hf 1 _ rfl
    have h1 : DataW.trod enc Try.prog w base spare held m1 3 ((([c0, c1] : List Value).drop 1).take (Try.prog.cellsOf 3)) = some x1 := g1
    rw [cells22] at h0
    rw [cells3] at h1
    obtain ⟨a1, e1⟩ := flat_i64 Try.underlying3 h1
    obtain ⟨A, n, c, xs, e0, hn, hc, hm, hr, hq⟩ := deep_slice_cells deep32 cells32 (by omega) encEv_len Try.underlying22 h0
    simp at e0 e1
    subst e0 e1
    exact ⟨A, n, c, xs, a1.1, rfl, ⟨hr, fun e he => (hq e he).1⟩, hc, hm⟩
end
end Go.Proofs.Ytknedclejhiegaa
