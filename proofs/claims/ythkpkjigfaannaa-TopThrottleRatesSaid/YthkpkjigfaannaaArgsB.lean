/- More arguments of the statements as values: bytes, rows of small numbers, trials. No condition. -/
import Derived.Test.YthkpkjigfaannaaArgs
namespace Go.Proofs.Ythkpkjigfaannaa
open Go.RowKit Go.ChangeShapes Go.WideShapes Go.Deep
section
variable {P : Program} {H : Type} {enc : TypeId × Value → H} {w : World} {r : Reach} {b0 base : Nat} {spare : Nat → Bool} {held : Bool} {v : Value} {d : DataW H} {p : List MemPlace}
theorem size5 : Try.prog.cellsOf 5 = 1 := by kernel_rfl
theorem cells44 : Try.prog.cellsOf 44 = 1 := by kernel_rfl
theorem cells53 : Try.prog.cellsOf 53 = 1 := by kernel_rfl
theorem cells55_ : Try.prog.cellsOf 55 = 2 := by kernel_rfl
theorem cells56 : Try.prog.cellsOf 56 = 1 := by kernel_rfl
theorem flat_i8 {e : TypeId} (ht : P.underlying e = some (.int .i8)) : Flat P e (fun x : { n : Int // -128 ≤ n ∧ n ≤ 127 } => [.int .i8 x.1]) := by
  intro H enc w base spare held fuel cs x h
  obtain ⟨n, rfl, _, hw⟩ := DataW.trod_int ht h
  have hb : -128 ≤ n ∧ n ≤ 127 := by
    simp only [Lit.wf, IntKind.min, IntKind.max, IntKind.signed, IntKind.bits, Bool.and_eq_true, decide_eq_true_eq] at hw
    simpa using hw
  exact ⟨⟨n, hb⟩, rfl⟩
def Arg5 (_ : World) (v : Value) : Prop := ∃ a : Int, v = .int .u8 a ∧ 0 ≤ a ∧ a ≤ 255
set_option maxRecDepth 100000 in
theorem arg5 (hv : Value.okWide Try.prog w r b0 5 v) (h : DataW.Trod enc Try.prog w base spare held 5 v d p) : Arg5 w v := by
  obtain ⟨a, rfl, _, _, w0⟩ := open_int Try.underlying5 hv h
  have hb := bounds_u8 w0
  exact ⟨a, rfl, hb.1, hb.2⟩
def enc44 (x : { n : Nat // n < 65536 }) : List Value := [.int .u16 (x.1 : Int)]
def enc5 (x : { n : Nat // n < 256 }) : List Value := [.int .u8 (x.1 : Int)]
def enc56 (x : { n : Int // -128 ≤ n ∧ n ≤ 127 }) : List Value := [.int .i8 x.1]
def Arg40 (w : World) (v : Value) : Prop := ∃ (A : Option Addr) (n c : Nat) (l : List { n : Nat // n < 65536 }), v = .slice A n c ∧ Reads w w.heap.size 1 A n (l.flatMap enc44) ∧ n ≤ c ∧ c ≤ maxLen
set_option maxRecDepth 100000 in
theorem arg40 (hv : Value.okWide Try.prog w r b0 40 v) (h : DataW.Trod enc Try.prog w base spare held 40 v d p) : Arg40 w v := by
  obtain ⟨A, n, cap, xs, rfl, _, h2, h3, h4⟩ := flat_slice (flat_u16 Try.underlying44) cells44 (by omega) (fun _ => rfl) Try.underlying40 hv h
  exact ⟨A, n, cap, xs, rfl, h4, h2, h3⟩
def Arg51 (w : World) (v : Value) : Prop := ∃ (A : Option Addr) (n c : Nat) (l : List { n : Nat // n < 256 }), v = .slice A n c ∧ Reads w w.heap.size 1 A n (l.flatMap enc5) ∧ n ≤ c ∧ c ≤ maxLen
set_option maxRecDepth 100000 in
theorem arg51 (hv : Value.okWide Try.prog w r b0 51 v) (h : DataW.Trod enc Try.prog w base spare held 51 v d p) : Arg51 w v := by
  obtain ⟨A, n, cap, xs, rfl, _, h2, h3, h4⟩ := flat_slice (flat_u8 Try.underlying5) size5 (by omega) (fun _ => rfl) Try.underlying51 hv h
  exact ⟨A, n, cap, xs, rfl, h4, h2, h3⟩
def Arg55 (w : World) (v : Value) : Prop := ∃ (s : Int) (A : Option Addr) (n c : Nat) (l : List { n : Int // -128 ≤ n ∧ n ≤ 127 }), v = .agg #[.int .u8 s, .slice A n c] ∧ (0 ≤ s ∧ s ≤ 255) ∧ Reads w w.heap.size 1 A n (l.flatMap enc56) ∧ n ≤ c ∧ c ≤ maxLen
set_option maxRecDepth 100000 in
theorem arg55 (hv : Value.okWide Try.prog w r b0 55 v) (h : DataW.Trod enc Try.prog w base spare held 55 v d p) : Arg55 w v := by
  obtain ⟨cs, rfl, hl, hf⟩ := struct_fields Try.underlying55 hv h
  rw [cells55_] at hl
  match cs, hl with
  | [c0, c1], _ =>
    obtain ⟨m0, x0, g0⟩ := hf 0 _ rfl
    have h0 : DataW.trod enc Try.prog w base spare held m0 5 ((([c0, c1] : List Value).drop 0).take (Try.prog.cellsOf 5)) = some x0 := g0
    obtain ⟨m1, x1, g1⟩ := hf 1 _ rfl
    have h1 : DataW.trod enc Try.prog w base spare held m1 53 ((([c0, c1] : List Value).drop 1).take (Try.prog.cellsOf 53)) = some x1 := g1
    rw [size5] at h0
    rw [cells53] at h1
    obtain ⟨a0, e0⟩ := flat_u8 Try.underlying5 h0
    obtain ⟨A, n, c, xs, e1, hn, hc, hm, hr⟩ := flat_slice_cells (flat_i8 Try.underlying56) cells56 (by omega) (fun _ => rfl) Try.underlying53 h1
    simp at e0 e1
    subst e0 e1
    exact ⟨_, A, n, c, xs, rfl, ⟨by omega, by have := a0.2; omega⟩, hr, hc, hm⟩
end
end Go.Proofs.Ythkpkjigfaannaa
