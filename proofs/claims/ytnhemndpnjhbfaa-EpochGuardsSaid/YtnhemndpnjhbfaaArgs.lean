/- What the statements' arguments are, as values. No condition. -/
import Derived.Test.YtnhemndpnjhbfaaArgLib
import Derived.Test.YtnhemndpnjhbfaaWu
namespace Go.Proofs.Ytnhemndpnjhbfaa
open Go.RowKit Go.ChangeShapes Go.WideShapes Go.Deep
section
variable {P : Program} {H : Type} {enc : TypeId × Value → H} {w : World} {r : Reach} {b0 base : Nat} {spare : Nat → Bool} {held : Bool} {v : Value} {d : DataW H} {p : List MemPlace}
theorem struct_cells {t : TypeId} {fs : Array Field} {cs : List Value} {x : DataW H × List MemPlace} {fuel : Nat} (ht : P.underlying t = some (.struct fs)) (h : DataW.trod enc P w base spare held fuel t cs = some x) :
    cs.length = P.cellsOf t ∧ ∀ (i : Nat) (f : Field), fs[i]? = some f → ∃ (m : Nat) (x : DataW H × List MemPlace), DataW.trod enc P w base spare held m f.type ((cs.drop f.offset).take (P.cellsOf f.type)) = some x := by
  obtain ⟨xs, m, _, _, hl, hlen, hi⟩ := DataW.trod_struct ht h
  refine ⟨hl, fun i f hfi => ?_⟩
  have hil : i < fs.size := (Array.getElem?_eq_some_iff.1 hfi).1
  have := hi i f hfi
  rw [List.getElem?_eq_getElem (by omega)] at this
  exact ⟨m, _, this⟩
theorem cells3 : Try.prog.cellsOf 3 = 1 := by kernel_rfl
theorem cells4 : Try.prog.cellsOf 4 = 1 := by kernel_rfl
theorem cells5 : Try.prog.cellsOf 5 = 1 := by kernel_rfl
abbrev I64 := { n : Int // -9223372036854775808 ≤ n ∧ n ≤ 9223372036854775807 }
abbrev B8 := { n : Nat // n < 256 }
def encF (x : I64 × I64 × Bool) : List Value := [.int .i64 x.1.1, .int .i64 x.2.1.1, .bool x.2.2]
def enc68 (x : I64 × I64 × I64) : List Value := [.int .i64 x.1.1, .int .i64 x.2.1.1, .int .i64 x.2.2.1]
def encSt (x : B8 × B8 × Bool) : List Value := [.int .u8 (x.1.1 : Int), .int .u8 (x.2.1.1 : Int), .bool x.2.2]
def encPr (x : B8 × B8) : List Value := [.int .u8 (x.1.1 : Int), .int .u8 (x.2.1 : Int)]
theorem cells23 : Try.prog.cellsOf 23 = 3 := by kernel_rfl
theorem flat23 : Flat Try.prog 23 encF := by
  intro H enc w base spare held fuel cs x h
  obtain ⟨hl, hf⟩ := struct_cells Try.underlying23 h
  rw [cells23] at hl
  match cs, hl with
  | [c0, c1, c2], _ =>
    obtain ⟨m0, x0, g0⟩ := hf 0 _ rfl
    have h0 : DataW.trod enc Try.prog w base spare held m0 3 ((([c0, c1, c2] : List Value).drop 0).take (Try.prog.cellsOf 3)) = some x0 := g0
    rw [cells3] at h0
    obtain ⟨a0, e0⟩ := flat_i64 Try.underlying3 h0
    obtain ⟨m1, x1, g1⟩ := hf 1 _ rfl
    have h1 : DataW.trod enc Try.prog w base spare held m1 3 ((([c0, c1, c2] : List Value).drop 1).take (Try.prog.cellsOf 3)) = some x1 := g1
    rw [cells3] at h1
    obtain ⟨a1, e1⟩ := flat_i64 Try.underlying3 h1
    obtain ⟨m2, x2, g2⟩ := hf 2 _ rfl
    have h2 : DataW.trod enc Try.prog w base spare held m2 4 ((([c0, c1, c2] : List Value).drop 2).take (Try.prog.cellsOf 4)) = some x2 := g2
    rw [cells4] at h2
    obtain ⟨a2, e2⟩ := flat_bool Try.underlying4 h2
    simp at e0 e1 e2
    subst e0 e1 e2
    exact ⟨(a0, a1, a2), rfl⟩
theorem cells68 : Try.prog.cellsOf 68 = 3 := by kernel_rfl
theorem flat68 : Flat Try.prog 68 enc68 := by
  intro H enc w base spare held fuel cs x h
  obtain ⟨hl, hf⟩ := struct_cells Try.underlying68 h
  rw [cells68] at hl
  match cs, hl with
  | [c0, c1, c2], _ =>
    obtain ⟨m0, x0, g0⟩ := hf 0 _ rfl
    have h0 : DataW.trod enc Try.prog w base spare held m0 3 ((([c0, c1, c2] : List Value).drop 0).take (Try.prog.cellsOf 3)) = some x0 := g0
    rw [cells3] at h0
    obtain ⟨a0, e0⟩ := flat_i64 Try.underlying3 h0
    obtain ⟨m1, x1, g1⟩ := hf 1 _ rfl
    have h1 : DataW.trod enc Try.prog w base spare held m1 3 ((([c0, c1, c2] : List Value).drop 1).take (Try.prog.cellsOf 3)) = some x1 := g1
    rw [cells3] at h1
    obtain ⟨a1, e1⟩ := flat_i64 Try.underlying3 h1
    obtain ⟨m2, x2, g2⟩ := hf 2 _ rfl
    have h2 : DataW.trod enc Try.prog w base spare held m2 3 ((([c0, c1, c2] : List Value).drop 2).take (Try.prog.cellsOf 3)) = some x2 := g2
    rw [cells3] at h2
    obtain ⟨a2, e2⟩ := flat_i64 Try.underlying3 h2
    simp at e0 e1 e2
    subst e0 e1 e2
    exact ⟨(a0, a1, a2), rfl⟩
theorem cells55 : Try.prog.cellsOf 55 = 3 := by kernel_rfl
theorem flat55 : Flat Try.prog 55 encSt := by
  intro H enc w base spare held fuel cs x h
  obtain ⟨hl, hf⟩ := struct_cells Try.underlying55 h
  rw [cells55] at hl
  match cs, hl with
  | [c0, c1, c2], _ =>
    obtain ⟨m0, x0, g0⟩ := hf 0 _ rfl
    have h0 : DataW.trod enc Try.prog w base spare held m0 5 ((([c0, c1, c2] : List Value).drop 0).take (Try.prog.cellsOf 5)) = some x0 := g0
    rw [cells5] at h0
    obtain ⟨a0, e0⟩ := flat_u8 Try.underlying5 h0
    obtain ⟨m1, x1, g1⟩ := hf 1 _ rfl
    have h1 : DataW.trod enc Try.prog w base spare held m1 5 ((([c0, c1, c2] : List Value).drop 1).take (Try.prog.cellsOf 5)) = some x1 := g1
    rw [cells5] at h1
    obtain ⟨a1, e1⟩ := flat_u8 Try.underlying5 h1
    obtain ⟨m2, x2, g2⟩ := hf 2 _ rfl
    have h2 : DataW.trod enc Try.prog w base spare held m2 4 ((([c0, c1, c2] : List Value).drop 2).take (Try.prog.cellsOf 4)) = some x2 := g2
    rw [cells4] at h2
    obtain ⟨a2, e2⟩ := flat_bool Try.underlying4 h2
    simp at e0 e1 e2
    subst e0 e1 e2
    exact ⟨(a0, a1, a2), rfl⟩
theorem cells81 : Try.prog.cellsOf 81 = 2 := by kernel_rfl
theorem flat81 : Flat Try.prog 81 encPr := by
  intro H enc w base spare held fuel cs x h
  obtain ⟨⟨l, hl⟩, rfl⟩ := flat_array (n := 2) (flat_u8 Try.underlying5) cells5 cells81 Try.underlying81 h
  match l, hl with
  | [x, y], _ => exact ⟨(x, y), rfl⟩
def Arg3 (_ : World) (v : Value) : Prop := ∃ a : Int, v = .int .i64 a ∧ -9223372036854775808 ≤ a ∧ a ≤ 9223372036854775807
theorem arg3 (hv : Value.okWide Try.prog w r b0 3 v) (h : DataW.Trod enc Try.prog w base spare held 3 v d p) : Arg3 w v := by
  obtain ⟨a, rfl, _, _, w0⟩ := open_int Try.underlying3 hv h
  have hb := bounds_i64 w0
  exact ⟨a, rfl, hb.1, hb.2⟩
def Arg23 (_ : World) (v : Value) : Prop := ∃ (x o : Int) (c : Bool), v = .agg #[.int .i64 x, .int .i64 o, .bool c]
theorem arg23 (hv : Value.okWide Try.prog w r b0 23 v) (h : DataW.Trod enc Try.prog w base spare held 23 v d p) : Arg23 w v := by
  obtain ⟨⟨a, b, c⟩, rfl⟩ := flat_struct_val flat23 Try.underlying23 hv h
  exact ⟨a.1, b.1, c, rfl⟩
def Arg39 (w : World) (v : Value) : Prop := ∃ (A : Option Addr) (n c : Nat) (l : List Span), v = .slice A n c ∧ RdS w A n l ∧ n ≤ c ∧ c ≤ maxLen
theorem spans_of (xs : List (I64 × I64 × I64)) : xs.flatMap enc68 = (xs.map fun x => Span.mk x.1.1 x.2.1.1 x.2.2.1).flatMap encS := by
  rw [List.flatMap_map]; rfl
theorem arg39 (hv : Value.okWide Try.prog w r b0 39 v) (h : DataW.Trod enc Try.prog w base spare held 39 v d p) : Arg39 w v := by
  obtain ⟨A, n, cap, xs, rfl, _, h2, h3, h4⟩ := flat_slice flat68 cells68 (by omega) (fun _ => rfl) Try.underlying39 hv h
  rw [spans_of] at h4
  exact ⟨A, n, cap, _, rfl, h4, h2, h3⟩
/-- a step of the law Guards -/
structure Stp where
  e : Nat
  o : Nat
  s : Bool
def encStp (x : Stp) : List Value := [.int .u8 (x.e : Int), .int .u8 (x.o : Int), .bool x.s]
def Arg52 (w : World) (v : Value) : Prop := ∃ (A : Option Addr) (n c : Nat) (l : List Stp), v = .slice A n c ∧ Reads w w.heap.size 3 A n (l.flatMap encStp) ∧ (∀ x ∈ l, x.e < 256 ∧ x.o < 256) ∧ n ≤ c ∧ c ≤ maxLen
theorem stps_of (xs : List (B8 × B8 × Bool)) : xs.flatMap encSt = (xs.map fun x => Stp.mk x.1.1 x.2.1.1 x.2.2).flatMap encStp := by
  rw [List.flatMap_map]; rfl
theorem arg52 (hv : Value.okWide Try.prog w r b0 52 v) (h : DataW.Trod enc Try.prog w base spare held 52 v d p) : Arg52 w v := by
  obtain ⟨A, n, cap, xs, rfl, _, h2, h3, h4⟩ := flat_slice flat55 cells55 (by omega) (fun _ => rfl) Try.underlying52 hv h
  rw [stps_of] at h4
  refine ⟨A, n, cap, _, rfl, h4, fun q hq => ?_, h2, h3⟩
  obtain ⟨x, _, rfl⟩ := List.mem_map.1 hq
  exact ⟨x.1.2, x.2.1.2⟩
def encP (x : Nat × Nat) : List Value := [.int .u8 (x.1 : Int), .int .u8 (x.2 : Int)]
def Arg57 (w : World) (v : Value) : Prop := ∃ (A : Option Addr) (n c : Nat) (l : List (Nat × Nat)), v = .slice A n c ∧ Reads w w.heap.size 2 A n (l.flatMap encP) ∧ (∀ x ∈ l, x.1 < 256 ∧ x.2 < 256) ∧ n ≤ c ∧ c ≤ maxLen
theorem prs_of (xs : List (B8 × B8)) : xs.flatMap encPr = (xs.map fun x => (x.1.1, x.2.1)).flatMap encP := by
  rw [List.flatMap_map]; rfl
theorem arg57 (hv : Value.okWide Try.prog w r b0 57 v) (h : DataW.Trod enc Try.prog w base spare held 57 v d p) : Arg57 w v := by
  obtain ⟨A, n, cap, xs, rfl, _, h2, h3, h4⟩ := flat_slice flat81 cells81 (by omega) (fun _ => rfl) Try.underlying57 hv h
  rw [prs_of] at h4
  refine ⟨A, n, cap, _, rfl, h4, fun q hq => ?_, h2, h3⟩
  obtain ⟨x, _, rfl⟩ := List.mem_map.1 hq
  exact ⟨x.1.2, x.2.2⟩
end
end Go.Proofs.Ytnhemndpnjhbfaa
